/- Merged. -/
import Derived.Test.YtmifhmdghfbalaaGreatDoorZ07
import Derived.Test.YtmifhmdghfbalaaGreatDoorZ08
import Derived.Deep.RegionHeld3
import Derived.Lib.Strings
set_option linter.unusedSimpArgs false
set_option linter.unnecessarySimpa false
set_option linter.unusedVariables false
set_option maxRecDepth 100000
set_option maxHeartbeats 4000000
open Go.Proofs.Tryz

namespace Go.Proofs.YtmifhmdghfbalaaGreatDoor
open Go.RowKit
theorem aEh {v lo hi:Int}:inB v lo hi=false↔v<lo∨hi<v:=by unfold inB;simp;omega
theorem aY9 (A:Option Addr) (c:Nat) (es:List Term) (K:Option Addr) (ck:Nat) (kinds:List Int) (bound:Bool) (w:World) (hT:aAr w A es.length es) (hK:aB7 w K kinds.length kinds) (hlen:es.length<=1000) :
  Calls prog 109 #[.slice A es.length c,.slice K kinds.length ck,.bool bound] w fun e w'=>e = .returned (.tuple #[.int .i64 (ofF es kinds bound).1,.int .i64 (ofF es kinds bound).2])/\Bel w w':=by
 have HT:=aA1 (fun w' (k:Bel w w')=>aAr.keep hT k);clear hT;have HK:=aA1 (fun w' (k:Bel w w')=>aB7.keep hK k);clear hK
 by_cases h6:6<kinds.length
 .have HF:Hid (ofF es kinds bound=(0,7)):=by show ofF es kinds bound=_;unfold ofF;rw [if_pos h6]
  have hd:decide (6<kinds.length)=true:=by simpa using h6
  go_enter func109,ntmps109
  go_wp2_with fail
  go_ret2
  rw [HF.out];exact ⟨rfl,Bel.refl _⟩
 .have hd:decide (6<kinds.length)=false:=by simpa using h6
  have h6':kinds.length<=6:=by omega
  go_enter func109,ntmps109
  go_wp2_with fail
  clear hd
  go_loopg [9,18] kinds.length (fun m _x z wr=>∃ j:Nat,j<=kinds.length/\m=kinds.length-j/\Hid ((kinds.take j).all aEt=true)/\z = .int .i64 j/\w=wr)
  case atStart=>exact ⟨0,by omega,rfl,rfl,rfl,rfl⟩
  case round =>
   obtain ⟨j,hj,rfl,HJ,rfl,rfl⟩:=hrel
   by_cases hlt:j<kinds.length
   .have hd0:decide (j<kinds.length)=true:=by simpa using hlt
    obtain ⟨b,o,rfl,hb,hc⟩:=(HK.out _ (Bel.refl _)).at_ j hlt;cases hk:aEt kinds[j] with
    | false =>
     have HF:Hid (ofF es kinds bound=(0,7)):=by show ofF es kinds bound=_;unfold ofF;rw [if_neg h6,if_pos (aAv hlt hk)]
     go_wp2_with (go_at_call 159;refine (aGs _ _).mono ?_;rintro e w' ⟨rfl,rfl⟩)
     go_ret2
     rw [HF.out];exact ⟨rfl,Bel.refl _⟩
    | true =>
     have HN:=aA1 (aAb hlt HJ.out hk)
     go_wp2_with (go_at_call 159;refine (aGs _ _).mono ?_;rintro e w' ⟨rfl,rfl⟩)
     go_roundg (kinds.length-(j+1))
     case rel=>exact ⟨j+1,by omega,rfl,HN,by go_num,rfl⟩
     case measure=>omega
   .have hd0:decide (j<kinds.length)=false:=by simpa using hlt
    have HA:=aA1 (aAy (by omega) HJ.out)
    clear HJ hlt;have HB:=Bel.refl w;cases hv:aB8 es kinds.length with
    | false =>
     have HF:Hid (ofF es kinds bound=(0,7)):=by show ofF es kinds bound=_;unfold ofF;rw [if_neg h6,if_neg (by rw [HA.out];decide),if_pos hv]
     go_wp2_with (go_at_call 108;refine (aFw _ _ _ es _ _ (HT.out _ HB) (by omega)).mono ?_;rintro e w' ⟨rfl,hbb⟩;replace HB:=HB.trans hbb;clear hbb;rw [hv])
     go_ret2
     rw [HF.out];exact ⟨rfl,HB⟩
    | true =>
     obtain ⟨v1,v2,v3,v4,_,_⟩:=aDi hv;have HV4:=aA1 v4;have HAT:=aA1 (At.whole v1 v2);have HVV:=aA1 hv
     have HF:Hid (ofF es kinds bound=if aBc kinds bound (aAm es)=0 then (0,6) else (aBc kinds bound (aAm es),0)):=by
      show ofF es kinds bound=_
      unfold ofF;rw [if_neg h6,if_neg (by rw [HA.out];decide),if_neg (by rw [hv];decide)]
     clear v1 v2 v3 v4 hv h6
     go_wp2_with (first
      | (go_at_call 108;refine (aFw _ _ _ es _ _ (HT.out _ HB) (by omega)).mono ?_;rintro e w' ⟨rfl,hbb⟩;replace HB:=HB.trans hbb;clear hbb;rw [HVV.out])
      | (go_at_call 160;replace HB:=HB.alloc (.cells #[.slice A es.length c,.slice K kinds.length ck] 199);refine (bJn kinds (aAm es) bound _ _ es K ck 0 _ HAT.out (HT.out _ HB) (HK.out _ HB) HV4.out hlen).mono ?_;rintro e w' ⟨rfl,hbb⟩;replace HB:=HB.trans hbb;clear hbb))
     all_goals (try simp only [beq_iff_eq,beq_eq_false_iff_ne] at *)
     all_goals (go_ret2;refine ⟨?_,HB⟩;rw [HF.out];simp_all)
theorem aNv (A:Option Addr) (c:Nat) (es:List Term) (K:Option Addr) (ck:Nat) (kinds:List Int) (bound:Bool) (w:World) (hT:aAr w A es.length es) (hK:aB7 w K kinds.length kinds) (hlen:es.length<=1000) :
  Calls prog 99 #[.slice A es.length c,.slice K kinds.length ck,.bool bound] w fun e w'=>e = .returned (.tuple #[.int .i64 (ofF es kinds bound).1,.int .i64 (ofF es kinds bound).2])/\Bel w w':=by
 have HT:=aA1 (fun w' (k:Bel w w')=>aAr.keep hT k);clear hT;have HK:=aA1 (fun w' (k:Bel w w')=>aB7.keep hK k);clear hK
 by_cases h6:6<kinds.length
 .have HF:Hid (ofF es kinds bound=(0,7)):=by show ofF es kinds bound=_;unfold ofF;rw [if_pos h6]
  have hd:decide (6<kinds.length)=true:=by simpa using h6
  go_enter func99,ntmps99
  go_wp2_with fail
  go_ret2
  rw [HF.out];exact ⟨rfl,Bel.refl _⟩
 .have hd:decide (6<kinds.length)=false:=by simpa using h6
  have h6':kinds.length<=6:=by omega
  go_enter func99,ntmps99
  go_wp2_with fail
  clear hd
  go_loopg [8] kinds.length (fun m z wr=>∃ j:Nat,j<=kinds.length/\m=kinds.length-j/\Hid ((kinds.take j).all aEt=true)/\z = .int .i64 j/\w=wr)
  case atStart=>exact ⟨0,by omega,rfl,rfl,rfl,rfl⟩
  case round =>
   obtain ⟨j,hj,rfl,HJ,rfl,rfl⟩:=hrel
   by_cases hlt:j<kinds.length
   .have hd0:decide (j<kinds.length)=true:=by simpa using hlt
    obtain ⟨b,o,rfl,hb,hc⟩:=(HK.out _ (Bel.refl _)).at_ j hlt;cases hk:aEt kinds[j] with
    | false =>
     have HF:Hid (ofF es kinds bound=(0,7)):=by show ofF es kinds bound=_;unfold ofF;rw [if_neg h6,if_pos (aAv hlt hk)]
     go_wp2_with (go_at_call 146;refine (aId _ _).mono ?_;rintro e w' ⟨rfl,rfl⟩)
     go_ret2
     rw [HF.out];exact ⟨rfl,Bel.refl _⟩
    | true =>
     have HN:=aA1 (aAb hlt HJ.out hk)
     go_wp2_with (go_at_call 146;refine (aId _ _).mono ?_;rintro e w' ⟨rfl,rfl⟩)
     go_roundg (kinds.length-(j+1))
     case rel=>exact ⟨j+1,by omega,rfl,HN,by go_num,rfl⟩
     case measure=>omega
   .have hd0:decide (j<kinds.length)=false:=by simpa using hlt
    have HA:=aA1 (aAy (by omega) HJ.out)
    clear HJ hlt;have HB:=Bel.refl w;cases hv:aB8 es kinds.length with
    | false =>
     have HF:Hid (ofF es kinds bound=(0,7)):=by show ofF es kinds bound=_;unfold ofF;rw [if_neg h6,if_neg (by rw [HA.out];decide),if_pos hv]
     go_wp2_with (go_at_call 147;refine (aFi _ _ _ es _ _ (HT.out _ HB) (by omega)).mono ?_;rintro e w' ⟨rfl,hbb⟩;replace HB:=HB.trans hbb;clear hbb;rw [hv])
     go_ret2
     rw [HF.out];exact ⟨rfl,HB⟩
    | true =>
     obtain ⟨v1,v2,v3,v4,_,_⟩:=aDi hv;have HV4:=aA1 v4;have HAT:=aA1 (At.whole v1 v2);have HVV:=aA1 hv
     have HF:Hid (ofF es kinds bound=if aBc kinds bound (aAm es)=0 then (0,6) else (aBc kinds bound (aAm es),0)):=by
      show ofF es kinds bound=_
      unfold ofF;rw [if_neg h6,if_neg (by rw [HA.out];decide),if_neg (by rw [hv];decide)]
     clear v1 v2 v3 v4 hv h6
     go_wp2_with (first
      | (go_at_call 147;refine (aFi _ _ _ es _ _ (HT.out _ HB) (by omega)).mono ?_;rintro e w' ⟨rfl,hbb⟩;replace HB:=HB.trans hbb;clear hbb;rw [HVV.out])
      | (go_at_call 148;refine (aJt kinds (aAm es) bound _ _ es K ck 0 _ HAT.out (HT.out _ HB) (HK.out _ HB) HV4.out hlen).mono ?_;rintro e w' ⟨rfl,hbb⟩;replace HB:=HB.trans hbb;clear hbb))
     all_goals (try simp only [beq_iff_eq,beq_eq_false_iff_ne] at *)
     all_goals (go_ret2;refine ⟨?_,HB⟩;rw [HF.out];simp_all)
def aCc (x:Var):Bool :=
 decide ((x.kind≠1/\(x.kind=2∨x.kind=3)/\x.lo=0/\x.hi=0/\x.perNode=0/\x.perID=0)
  ∨ (x.kind=1/\(0<=x.lo/\x.lo<=4096)/\(0<=x.perNode/\x.perNode<=255)/\(0<=x.perID/\x.perID<=255)/\(x.perNode=0∨x.perID=0) /\ -4096<=x.hi/\x.hi<=4096/\(x.perNode≠0∨x.perID≠0∨0<=x.hi)))
def bEn (x:Var):Value := .agg #[.string x.name,.int .i64 x.kind,.int .i64 x.lo,.int .i64 x.hi,.int .i64 x.perNode,.int .i64 x.perID]
theorem aRn (x:Var) (w:World):Calls prog 207 #[bEn x] w fun e w'=>e = .returned (.bool (aCc x))/\Bel w w':=by
 obtain ⟨name,kind,lo,hi,pn,pi⟩:=x;unfold bEn;dsimp only;have HF:Hid (aCc ⟨name,kind,lo,hi,pn,pi⟩=true↔_):=(decide_eq_true_iff);dsimp only at HF
 by_cases hk:kind=1
 .subst hk
  have hp:aEt 1=true:=rfl;go_enter func207,ntmps207
  go_wp2_with (first
   | (go_at_call 159;refine (aGs _ _).mono ?_;rintro e w' ⟨rfl,rfl⟩;rw [hp])
   | (go_at_call 254;refine (aJ7 _ _ _ _).mono ?_;rintro e w' ⟨rfl,rfl⟩))
  all_goals (try simp only [beq_iff_eq,beq_eq_false_iff_ne,bne_iff_ne,bne_eq_false_iff_eq,aIn,aEh,Bool.not_eq_true',Bool.not_eq_eq_eq_not,Bool.not_true,Bool.not_false] at *)
  all_goals (go_ret;refine ⟨aA2 ?_,(Bel.refl _).alloc _⟩;rw [Bool.eq_iff_iff,HF.out];simp only [aIn,Bool.false_eq_true,false_iff,true_and];omega)
 .have hne:(kind != 1)=true:=by simpa using hk
  cases hkk:aEt kind with
  | false =>
   have hk2:¬ (kind=1∨kind=2∨kind=3):=by
    intro h;unfold aEt at hkk;simp at hkk;omega
   go_enter func207,ntmps207
   go_wp2_with (go_at_call 159;refine (aGs _ _).mono ?_;rintro e w' ⟨rfl,rfl⟩;rw [hkk])
   go_ret;refine ⟨aA2 ?_,(Bel.refl _).alloc _⟩
   symm
   rw [Bool.eq_false_iff,ne_eq,HF.out];omega
  | true =>
   have hk2:kind=2∨kind=3:=by
    unfold aEt at hkk;simp at hkk;omega
   have HK2:=aA1 hk2;clear hk2;go_enter func207,ntmps207
   go_wp2_with (go_at_call 159;refine (aGs _ _).mono ?_;rintro e w' ⟨rfl,rfl⟩;rw [hkk])
   all_goals
    have hk2:=HK2.out;go_ret;refine ⟨aA2 ?_,(Bel.refl _).alloc _⟩
    rw [Bool.eq_iff_iff,HF.out];simp only [beq_iff_eq,Bool.false_eq_true,false_iff]
    omega
theorem aM8 (x:Var) (w:World):Calls prog 192 #[bEn x] w fun e w'=>e = .returned (.bool (aCc x))/\Bel w w':=by
 obtain ⟨name,kind,lo,hi,pn,pi⟩:=x;unfold bEn;dsimp only;have HF:Hid (aCc ⟨name,kind,lo,hi,pn,pi⟩=true↔_):=(decide_eq_true_iff);dsimp only at HF
 by_cases hk:kind=1
 .subst hk
  go_enter func192,ntmps192
  go_wp2_with (go_at_call 190;refine (aFl _ _ _ _).mono ?_;rintro e w' ⟨rfl,rfl⟩)
  all_goals (try simp only [beq_iff_eq,beq_eq_false_iff_ne,bne_iff_ne,bne_eq_false_iff_eq,aIn,aEh,Bool.not_eq_true',Bool.not_eq_eq_eq_not,Bool.not_true,Bool.not_false] at *)
  all_goals (go_ret;refine ⟨aA2 ?_,(Bel.refl _).alloc _⟩;rw [Bool.eq_iff_iff,HF.out];simp only [aIn,Bool.false_eq_true,false_iff,true_and];omega)
 .have hne:(kind != 1)=true:=by simpa using hk
  cases hkk:aEt kind with
  | false =>
   have hk2:¬ (kind=1∨kind=2∨kind=3):=by
    intro h;unfold aEt at hkk;simp at hkk;omega
   go_enter func192,ntmps192
   go_wp2_with (go_at_call 146;refine (aId _ _).mono ?_;rintro e w' ⟨rfl,rfl⟩;rw [hkk])
   go_ret;refine ⟨aA2 ?_,(Bel.refl _).alloc _⟩
   symm
   rw [Bool.eq_false_iff,ne_eq,HF.out];omega
  | true =>
   have hk2:kind=2∨kind=3:=by
    unfold aEt at hkk;simp at hkk;omega
   have HK2:=aA1 hk2;clear hk2;go_enter func192,ntmps192
   go_wp2_with (go_at_call 146;refine (aId _ _).mono ?_;rintro e w' ⟨rfl,rfl⟩;rw [hkk])
   all_goals
    have hk2:=HK2.out;go_ret;refine ⟨aA2 ?_,(Bel.refl _).alloc _⟩
    rw [Bool.eq_iff_iff,HF.out];simp only [beq_iff_eq,Bool.false_eq_true,false_iff]
    omega
def bEo (l:List Int) (w:World) (e:Ending) (w':World):Prop:=∃ A c,e = .returned (.slice A l.length c)/\aB7 w' A l.length l/\l.length<=c/\c<=maxLen/\Bel w w'
def aQy (l:List Int) (k:Nat):List Int:=l.take k++List.replicate (l.length-k) 0
theorem aAf {w:World} {base:Nat} {e:TypeId} {size g n c:Nat} {xs:List Value} (h:w.ownsRow base e size (.slice (some ⟨g,0,none⟩) n c) n xs):base<=g/\g<w.heap.size:=by
 rcases h.2 with ⟨hv,_⟩ | ⟨g',cap,cur,hv,hb,hg,_⟩
 .cases hv
 .injection hv with hA;injection hA with hA;injection hA with hA;subst hA;exact ⟨hb,lt_of_block hg⟩
theorem bD8 (l:List Int):aQy l 0=List.replicate l.length 0:=by simp [aQy]
theorem bD6 (l:List Int) (k:Nat) (h:l.length<=k):aQy l k=l:=by simp [aQy,List.take_of_length_le h,show l.length-k=0 by omega]
theorem bFo (l:List Int) (k:Nat) (h:k<l.length):(aQy l k)[k]?=some 0:=by
 unfold aQy;rw [List.getElem?_append_right (by simp;omega)]
 rw [List.length_take,Nat.min_eq_left (Nat.le_of_lt h),Nat.sub_self,List.getElem?_replicate,if_pos (by omega)]
theorem bD7 (l:List Int) (k:Nat) (h:k<l.length):(aQy l k).set k l[k]=aQy l (k+1):=by
 unfold aQy;rw [List.set_append_right _ _ (by simp;omega),List.length_take,Nat.min_eq_left (Nat.le_of_lt h),Nat.sub_self,show l.length-k=(l.length-(k+1))+1 by omega,List.replicate_succ,List.set_cons_zero]
 conv=>rhs;rw [List.take_succ_eq_append_getElem h,List.append_assoc]
 rfl
theorem aXl (v:Value) (p:Prg) (w:World) (h:aE0 w v p) (hl:p.vars.length<=1000) :
  Calls prog 107 #[v] w (bEo (aAx p) w):=by
 obtain ⟨A,k,A2,k2,rfl,hV,_,_,_,_,_⟩:=h;have HV:=aA1 (fun w' (k:Bel w w')=>aKh.keep hV k);clear hV;obtain ⟨i0,hi0,hz0,hz1,hz2⟩:=info_parts aFm;have HN:Hid ((aAx p).length=p.vars.length):=by show (aAx p).length=_;simp [aAx]
 have HB0:=(Bel.refl w).alloc (.cells #[.string p.name,.slice A p.vars.length k,.slice A2 p.rules.length k2] 25);go_enter func107,ntmps107
 go_wp2_with (at_make;refine aCu _ rfl 26 (.tmp 8) (.tmp 8) rfl (w.heap.size+1) 3 i0 (.int .i64 0) 1 underlying26 hi0 hz0 hz1 .i64 .i64 p.vars.length rfl rfl (by rw [hz2];omega) (by unfold maxLen;omega) (by simp) ?_;intro g w2 hown hb2;have q1:=aA9 hb2 1 rfl;have q2:=aAz hb2;have HB:=HB0.trans hb2;rw [aEj _ rfl] at hown;have HO:=aA1 hown;have HK2:=aA1 hb2;clear hown hb2 HB0)
 have hg:=aAf HO.out
 have H0:Hid (w2.ownsRow (w.heap.size+1) 3 1 (.slice (some ⟨g,0,none⟩) p.vars.length p.vars.length) p.vars.length ((aQy (aAx p) 0).map (Value.int .i64))):=by
  show World.ownsRow _ _ _ _ _ _ _
  rw [bD8,HN.out,List.map_replicate];exact HO.out
 clear HO
 go_loopg [4,5,13] p.vars.length (fun m _x _y z wr=>∃ j:Nat,j<=p.vars.length/\m=p.vars.length-j/\z = .int .i64 j/\Hid (wr.ownsRow (w.heap.size+1) 3 1 (.slice (some ⟨g,0,none⟩) p.vars.length p.vars.length) p.vars.length ((aQy (aAx p) j).map (Value.int .i64)))/\Bel w wr)
 case atStart=>exact ⟨0,by omega,rfl,rfl,H0,HB⟩
 case round =>
  clear HB H0 HK2 q1 q2;obtain ⟨j,hj,rfl,rfl,HO,HB⟩:=hrel
  by_cases hlt:j<p.vars.length
  .have hd0:decide (j<p.vars.length)=true:=by simpa using hlt
   obtain ⟨b,o,rfl,hb,v0,v1,v2,v3,v4,v5⟩:=(HV.out _ HB).at_ j hlt;obtain ⟨g',e',_,hgl,y1,y2⟩:=aBv HO.out (j:=j) (u := .int .i64 0) (by rw [List.getElem?_map,bFo _ _ (by rw [HN.out];exact hlt)];rfl)
   obtain rfl:g=g':=by simpa using e'
   have hst:=(HO.out.stored j (.int .i64 p.vars[j].kind)).1.alloc (.cells #[.string p.vars[j].name,.int .i64 p.vars[j].kind,.int .i64 p.vars[j].lo,.int .i64 p.vars[j].hi,.int .i64 p.vars[j].perNode,.int .i64 p.vars[j].perID] 159);rw [<- List.map_set,show p.vars[j].kind=(aAx p)[j]'(by rw [HN.out];exact hlt) by simp [aAx],bD7 _ _ (by rw [HN.out];exact hlt)] at hst
   have HST:=aA1 hst;have HKE:=aA1 (show (aAx p)[j]'(by rw [HN.out];exact hlt)=p.vars[j].kind by simp [aAx])
   have hne:wr.heap.size≠g:=by omega
   clear hst e'
   go_wp2_with fail
   go_roundg (p.vars.length-(j+1))
   case rel=>exact ⟨j+1,by omega,rfl,by go_num,by rw [HKE.out] at HST;exact HST,(HB.setCell (by simp;omega) _).alloc _⟩
   case measure=>omega
  .have hd0:decide (j<p.vars.length)=false:=by simpa using hlt
   go_wp2_with fail
   go_ret;have h1:=HO.out;rw [bD6 _ _ (by rw [HN.out];omega)] at h1
   refine ⟨some ⟨g,0,none⟩,p.vars.length,by rw [HN.out];rfl,by rw [HN.out];exact aGj h1,by rw [HN.out];exact Nat.le_refl _,by unfold maxLen;omega,HB⟩
theorem Bel.pushB {w wr w':World} {base:Nat} {e:TypeId} {size:Nat} {v:Value} {n:Nat} {xs:List Value} (h:Bel w wr) (ho:wr.ownsRow base e size v n xs) (hb:w.heap.size<=base) (hg:wr.grownBy w' v.ownBlock):Bel w w' :=
 h.grown hg (fun k hk=>Nat.le_trans hb (ho.lt k hk).1)
theorem aGu (v:Value) (p:Prg) (w:World) (h:aE0 w v p) (hl:p.vars.length<=1000) :
  Calls prog 100 #[v] w (bEo (aAx p) w):=by
 obtain ⟨A,k,A2,k2,rfl,hV,_,_,_,_,_⟩:=h;have HV:=aA1 (fun w' (k:Bel w w')=>aKh.keep hV k);clear hV;obtain ⟨i0,hi0,hz0,hz1,hz2⟩:=info_parts aFm;have HN:Hid ((aAx p).length=p.vars.length):=by show (aAx p).length=_;simp [aAx]
 go_enter func100,ntmps100;go_wp2
 go_loopg [3,4] p.vars.length (fun m s z wr=>∃ (j:Nat) (R:Option Addr) (rc:Nat),j<=p.vars.length/\m=p.vars.length-j/\z = .int .i64 j/\s = .slice R j rc/\Hid (wr.ownsRow (w.heap.size+1) 3 1 (.slice R j rc) j (((aAx p).take j).map (Value.int .i64)))/\Bel (w.alloc (.cells #[.string p.name,.slice A p.vars.length k,.slice A2 p.rules.length k2] 25)) wr)
 case atStart=>exact ⟨0,none,0,by omega,rfl,rfl,rfl,World.ownsRow_nil _ _ _ _,Bel.refl _⟩
 case round =>
  obtain ⟨j,R,rc,hj,rfl,rfl,rfl,HO,HB⟩:=hrel;have q1:=aA9 HB 1 rfl;have q2:=aAz HB
  by_cases hlt:j<p.vars.length
  .have hd0:decide (j<p.vars.length)=true:=by simpa using hlt
   obtain ⟨b,o,rfl,hb,v0,v1,v2,v3,v4,v5⟩:=(HV.out _ (aA3 HB)).at_ j hlt
   have HT:Hid (((aAx p).take (j+1)).map (Value.int .i64)=((aAx p).take j).map (Value.int .i64)++[.int .i64 p.vars[j].kind]):=by
    show ((aAx p).take (j+1)).map (Value.int .i64)=_
    rw [List.take_succ_eq_append_getElem (by rw [HN.out];exact hlt),List.map_append]
    simp [aAx]
   go_wp2_with (at_builtin;refine aC5 _ rfl (.tmp 12) (.tmp 19) 26 rfl (w.heap.size+1) 3 i0 (.int .i64 0) 1 8 underlying26 hi0 hz0 hz1 hz2 rfl (by decide) R j rc _ (by simp [Act.eval]) (HO.out.alloc _) wr.heap.size #[.int .i64 p.vars[j].kind] 3 (0,0) (by simp [Act.eval]) (aBr _ _) rfl (aMm _ _) (by unfold maxLen;omega) (by omega) (by simp;omega) ?_;intro R2 rc2 w2 hown hgr hat;have HB2:=(HB.alloc _).pushB (HO.out.alloc _) (by simp) hgr;have HO2:=aA1 hown;clear hown hgr hat)
   go_roundg (p.vars.length-(j+1))
   case rel =>
    refine ⟨j+1,R2,rc2,by omega,rfl,by go_num,rfl,?_,HB2⟩
    show World.ownsRow _ _ _ _ _ _ _
    rw [HT.out];exact HO2.out
   case measure=>omega
  .obtain rfl:j=p.vars.length:=by omega
   have hd0:decide (p.vars.length<p.vars.length)=false:=by simp
   go_wp2_with fail
   go_ret;have h1:=HO.out;rw [List.take_of_length_le (by rw [HN.out];exact Nat.le_refl _)] at h1
   refine ⟨R,rc,by rw [HN.out];rfl,by rw [HN.out];exact aGj h1,by rw [HN.out];exact (aDp h1).1,(aDp h1).2,aA3 HB⟩
def aCv (vars:Nat) (r:Rule):Bool :=
 decide (1<=r.sets.length/\r.sets.length<=6)&&aB8 r.guard vars&&r.sets.all (fun s=>decide (0<=s.var/\s.var<=(vars:Int)-1)&&aB8 s.value vars)&&decide ((r.sets.map SetT.var).Nodup)
def aCt (kinds:List Int) (r:Rule):Bool:=(aBc kinds false (aAm r.guard)==2)&&r.sets.all (fun s=>aBc kinds false (aAm s.value)==kinds.getD s.var.toNat 0)
structure FOK (vars:Nat) (r:Rule):Prop where
 pos:1<=r.sets.length
 le:r.sets.length<=6
 guard:aB8 r.guard vars=true
 sets:∀ s∈r.sets,(0<=s.var/\s.var<=(vars:Int)-1)/\aB8 s.value vars=true
 diff:(r.sets.map SetT.var).Nodup
theorem aG6 (vars:Nat) (r:Rule):aCv vars r=true↔FOK vars r:=by
 unfold aCv;simp only [Bool.and_eq_true,decide_eq_true_eq,List.all_eq_true]
 constructor
 .rintro ⟨⟨⟨⟨h1,h2⟩,h3⟩,h4⟩,h5⟩
  exact ⟨h1,h2,h3,h4,h5⟩
 .rintro ⟨h1,h2,h3,h4,h5⟩
  exact ⟨⟨⟨⟨h1,h2⟩,h3⟩,h4⟩,h5⟩
theorem bGk {es:List Term} {kinds:List Int} (h6:kinds.length<=6) (hk:kinds.all aEt=true) (hv:aB8 es kinds.length=true):(ofF es kinds false).1=aBc kinds false (aAm es):=by
 unfold ofF;rw [if_neg (by omega),if_neg (by rw [hk];decide),if_neg (by rw [hv];decide)]
 split
 .rename_i h;rw [h]
 .rfl
theorem aZ5 (v:Value) (r:Rule) (K:Option Addr) (ck:Nat) (kinds:List Int) (w:World) (h:aWd w v r) (hK:aB7 w K kinds.length kinds) (h6:kinds.length<=6) (hk:kinds.all aEt=true) (hf:FOK kinds.length r) (hL:aH1 r=true) :
  Calls prog 209 #[v,.slice K kinds.length ck] w fun e w'=>e = .returned (.bool (aCt kinds r))/\Bel w w':=by
 obtain ⟨G,c,S,c2,rfl,hG,_,_,hS,_,_⟩:=h;have HG:=aA1 (fun w' (k:Bel w w')=>aAr.keep hG k);clear hG;have HS:=aA1 (fun w' (k:Bel w w')=>aO5.keep hS k);clear hS;have HK:=aA1 (fun w' (k:Bel w w')=>aB7.keep hK k);clear hK;obtain ⟨_,l2,l3,l4⟩:=aCh hL;have HL4:=aA1 l4;clear l4;have HOg:=aA1 (bGk h6 hk hf.guard);have HFS:=aA1 hf.sets;have HKK:=aA1 hk;have HB:=Bel.refl (w.alloc (.cells #[.string r.name,.slice G r.guard.length c,.slice S r.sets.length c2] 154));clear hL hf hk
 by_cases hg:aBc kinds false (aAm r.guard)=2
 .have hgb:(aBc kinds false (aAm r.guard) != 2)=false:=by simp [hg]
  have HGG:=aA1 hg;clear hg;go_enter func209,ntmps209
  go_wp2_with (go_at_call 109;refine (aY9 _ _ r.guard _ _ kinds _ _ (HG.out _ (aA3 HB)) (HK.out _ (aA3 HB)) (by omega)).mono ?_;rintro e w' ⟨rfl,hb⟩;rw [HOg.out];replace HB:=HB.trans hb;clear hb;have q1:=aA9 HB 2 rfl;have q2:=aAz HB)
  clear q1 q2 hgb
  go_loopg [8,9,10,23] r.sets.length (fun m _x _y _u z wr=>∃ j:Nat,j<=r.sets.length/\m=r.sets.length-j/\z = .int .i64 j/\Hid ((r.sets.take j).all (fun s=>aBc kinds false (aAm s.value)==kinds.getD s.var.toNat 0)=true)/\Bel (w.alloc (.cells #[.string r.name,.slice G r.guard.length c,.slice S r.sets.length c2] 154)) wr)
  case atStart=>exact ⟨0,by omega,rfl,rfl,rfl,HB⟩
  case round =>
   clear HB;obtain ⟨j,hj,rfl,rfl,HJ,HB⟩:=hrel
   by_cases hlt:j<r.sets.length
   .have hd0:decide (j<r.sets.length)=true:=by simpa using hlt
    obtain ⟨⟨f1,f2⟩,f3⟩:=HFS.out _ (List.getElem_mem hlt);have hlen:=HL4.out _ (List.getElem_mem hlt);have HOs:=aA1 (bGk h6 HKK.out f3);obtain ⟨a,ha⟩:=Int.eq_ofNat_of_zero_le f1;have hak:a<kinds.length:=by omega
    have HAK:Hid (kinds.getD r.sets[j].var.toNat 0=kinds[a]):=by show kinds.getD r.sets[j].var.toNat 0=_;rw [ha,Int.toNat_natCast,aA7 hak]
    obtain ⟨b,o,R,c',rfl,hb,s1,s2,hTv,_,_⟩:=(HS.out _ (aA3 HB)).at_ j hlt;rw [ha] at s1;have HTv:=aA1 (fun w' (k:Bel wr w')=>aAr.keep hTv k);clear hTv;have HAE:=aA1 ha;clear f1 f2 f3 ha;have HB2:=Bel.refl (wr.alloc (.cells #[.int .i64 (a:Int),.slice R r.sets[j].value.length c'] 156))
    go_wp2_with fail
    refine (aY9 _ _ r.sets[j].value _ _ kinds _ _ (HTv.out _ (aA3 HB2)) (HK.out _ ((aA3 HB).trans (aA3 HB2))) (by omega)).mono ?_
    rintro e w' ⟨rfl,hb⟩;rw [HOs.out];replace HB2:=HB2.trans hb;clear hb;have q1:=aA9 HB2 0 rfl;have q2:=aAz HB2;obtain ⟨bk,ok,rfl,hbk,ck1⟩:=(HK.out _ ((aA3 HB).trans (aA3 HB2))).at_ a hak
    by_cases he:aBc kinds false (aAm r.sets[j].value)=kinds[a]
    .have heb:(aBc kinds false (aAm r.sets[j].value) != kinds[a])=false:=by simpa using he
     have HN:=aA1 (aAb hlt HJ.out (by simp only [HAK.out,he,BEq.rfl]))
     clear he
     go_wp2_with fail
     go_roundg (r.sets.length-(j+1))
     case rel=>exact ⟨j+1,by omega,rfl,by go_num,HN,HB.trans (aA3 HB2)⟩
     case measure=>omega
    .have heb:(aBc kinds false (aAm r.sets[j].value) != kinds[a])=true:=by simpa using he
     have HF:Hid (aCt kinds r=false):=by
      show aCt kinds r=false
      unfold aCt;rw [aAv hlt (by rw [HAK.out];simpa using he)];simp
     clear he
     go_wp2_with fail
     go_ret;exact ⟨aA2 HF.out.symm,(aA3 HB).trans (aA3 HB2)⟩
   .have hd0:decide (j<r.sets.length)=false:=by simpa using hlt
    have HF:Hid (aCt kinds r=true):=by
     show aCt kinds r=true
     unfold aCt;rw [aAy (by omega) HJ.out,HGG.out];rfl
    go_wp2_with fail
    go_ret;exact ⟨aA2 HF.out.symm,aA3 HB⟩
 .have hgb:(aBc kinds false (aAm r.guard) != 2)=true:=by simp [hg]
  have HF:Hid (aCt kinds r=false):=by
   show aCt kinds r=false
   unfold aCt;rw [show (aBc kinds false (aAm r.guard)==2)=false by simpa using hg];rfl
  clear hg;go_enter func209,ntmps209
  go_wp2_with (go_at_call 109;refine (aY9 _ _ r.guard _ _ kinds _ _ (HG.out _ (aA3 HB)) (HK.out _ (aA3 HB)) (by omega)).mono ?_;rintro e w' ⟨rfl,hb⟩;rw [HOg.out];replace HB:=HB.trans hb;clear hb)
  go_ret;exact ⟨aA2 HF.out.symm,aA3 HB⟩
theorem aYr (v:Value) (r:Rule) (K:Option Addr) (ck:Nat) (kinds:List Int) (w:World) (h:aWd w v r) (hK:aB7 w K kinds.length kinds) (hf:FOK kinds.length r) (hL:aH1 r=true) :
  Calls prog 194 #[v,.slice K kinds.length ck] w fun e w'=>e = .returned (.bool (aCt kinds r))/\Bel w w':=by
 obtain ⟨G,c,S,c2,rfl,hG,_,_,hS,_,_⟩:=h;have HG:=aA1 (fun w' (k:Bel w w')=>aAr.keep hG k);clear hG;have HS:=aA1 (fun w' (k:Bel w w')=>aO5.keep hS k);clear hS;have HK:=aA1 (fun w' (k:Bel w w')=>aB7.keep hK k);clear hK;obtain ⟨_,l2,l3,l4⟩:=aCh hL;have HL4:=aA1 l4;clear l4;obtain ⟨g1,g2,_,g4,_,_⟩:=aDi hf.guard;have HGA:=aA1 (At.whole g1 g2);have HG4:=aA1 g4;have HFS:=aA1 hf.sets;have HB:=Bel.refl (w.alloc (.cells #[.string r.name,.slice G r.guard.length c,.slice S r.sets.length c2] 154));clear hL hf g1 g2 g4
 by_cases hg:aBc kinds false (aAm r.guard)=2
 .have hgb:(aBc kinds false (aAm r.guard) != 2)=false:=by simp [hg]
  have HGG:=aA1 hg;clear hg;go_enter func194,ntmps194
  go_wp2_with (go_at_call 148;refine (aJt kinds (aAm r.guard) _ _ _ r.guard _ _ 0 _ HGA.out (HG.out _ (aA3 HB)) (HK.out _ (aA3 HB)) HG4.out (by omega)).mono ?_;rintro e w' ⟨rfl,hb⟩;replace HB:=HB.trans hb;clear hb;have q1:=aA9 HB 2 rfl;have q2:=aAz HB)
  clear q1 q2 hgb
  go_loopg [5] r.sets.length (fun m z wr=>∃ j:Nat,j<=r.sets.length/\m=r.sets.length-j/\z = .int .i64 j/\Hid ((r.sets.take j).all (fun s=>aBc kinds false (aAm s.value)==kinds.getD s.var.toNat 0)=true)/\Bel (w.alloc (.cells #[.string r.name,.slice G r.guard.length c,.slice S r.sets.length c2] 154)) wr)
  case atStart=>exact ⟨0,by omega,rfl,rfl,rfl,HB⟩
  case round =>
   clear HB;obtain ⟨j,hj,rfl,rfl,HJ,HB⟩:=hrel;have q1:=aA9 HB 2 rfl;have q2:=aAz HB
   by_cases hlt:j<r.sets.length
   .have hd0:decide (j<r.sets.length)=true:=by simpa using hlt
    obtain ⟨⟨f1,f2⟩,f3⟩:=HFS.out _ (List.getElem_mem hlt);have hlen:=HL4.out _ (List.getElem_mem hlt);obtain ⟨t1,t2,_,t4,_,_⟩:=aDi f3;have HTA:=aA1 (At.whole t1 t2);have HT4:=aA1 t4;obtain ⟨a,ha⟩:=Int.eq_ofNat_of_zero_le f1;have hak:a<kinds.length:=by omega
    have HAK:Hid (kinds.getD r.sets[j].var.toNat 0=kinds[a]):=by show kinds.getD r.sets[j].var.toNat 0=_;rw [ha,Int.toNat_natCast,aA7 hak]
    obtain ⟨b,o,R,c',rfl,hb,s1,s2,hTv,_,_⟩:=(HS.out _ (aA3 HB)).at_ j hlt;rw [ha] at s1;obtain ⟨bk,ok,rfl,hbk,ck1⟩:=(HK.out _ (aA3 HB)).at_ a hak;have HTv:=aA1 (fun w' (k:Bel wr w')=>aAr.keep hTv k);clear hTv;have hcell:=aA1 (fun w' (k:Bel wr w')=>And.intro ((k.cell q2).trans q1) (And.intro ((k.cell hb).trans s1) (And.intro ((k.cell hbk).trans ck1) (And.intro ((k.cell hb).trans s2) (Nat.lt_of_lt_of_le q2 k.size)))));clear f1 f2 f3 ha t1 t2 t4;have HB2:=Bel.refl wr
    go_wp2_with fail
    replace HB2:=HB2.drew
    go_region_held3 (fun w'=>w'.cell? ⟨w.heap.size,2,none⟩=some (.slice (some ⟨b,o,none⟩) r.sets.length c2)/\w'.cell? ⟨b,o+j*2,none⟩=some (.int .i64 (a:Int))/\w'.cell? ⟨bk,ok+a,none⟩=some (.int .i64 kinds[a])/\w'.cell? ⟨b,o+j*2+1,none⟩=some (.slice R r.sets[j].value.length c')/\w.heap.size<w'.heap.size) (exact hcell.out _ HB2) (first | (go_simp;go_at_call 148;refine (aJt kinds (aAm r.sets[j].value) _ _ _ r.sets[j].value _ _ 0 _ HTA.out (HTv.out _ HB2) (HK.out _ ((aA3 HB).trans HB2)) HT4.out (by omega)).mono ?_;rintro e w' ⟨rfl,hbb⟩;replace HB2:=HB2.trans hbb;clear hbb))
    go_wp2_with fail
    .have he:(aBc kinds false (aAm r.sets[j].value) != kinds[a])=true:=by assumption
     have HF:Hid (aCt kinds r=false):=by
      show aCt kinds r=false
      unfold aCt;rw [aAv hlt (by rw [HAK.out];simpa using he)];simp
     go_ret;exact ⟨aA2 HF.out.symm,(aA3 HB).trans HB2⟩
    .have he:(aBc kinds false (aAm r.sets[j].value) != kinds[a])=false:=by assumption
     have HN:=aA1 (aAb hlt HJ.out (by simp only [HAK.out];simpa using he))
     go_roundg (r.sets.length-(j+1))
     case rel=>exact ⟨j+1,by omega,rfl,by go_num,HN,HB.trans HB2⟩
     case measure=>omega
   .have hd0:decide (j<r.sets.length)=false:=by simpa using hlt
    have HF:Hid (aCt kinds r=true):=by
     show aCt kinds r=true
     unfold aCt;rw [aAy (by omega) HJ.out,HGG.out];rfl
    go_wp2_with fail
    go_ret;exact ⟨aA2 HF.out.symm,aA3 HB⟩
 .have hgb:(aBc kinds false (aAm r.guard) != 2)=true:=by simp [hg]
  have HF:Hid (aCt kinds r=false):=by
   show aCt kinds r=false
   unfold aCt;rw [show (aBc kinds false (aAm r.guard)==2)=false by simpa using hg];rfl
  clear hg;go_enter func194,ntmps194
  go_wp2_with (go_at_call 148;refine (aJt kinds (aAm r.guard) _ _ _ r.guard _ _ 0 _ HGA.out (HG.out _ (aA3 HB)) (HK.out _ (aA3 HB)) HG4.out (by omega)).mono ?_;rintro e w' ⟨rfl,hb⟩;replace HB:=HB.trans hb;clear hb)
  go_ret;exact ⟨aA2 HF.out.symm,aA3 HB⟩
theorem aC6 {vars:Nat} {r:Rule} (h:¬ FOK vars r):aCv vars r=false:=by
 rw [Bool.eq_false_iff];intro hb;exact h ((aG6 vars r).1 hb)
theorem aCx {α:Type} {l:List α} {k:Nat} (h:k<l.length) (hn:(l.take k).Nodup) (hne:∀ j (hj:j<k),l[j]≠l[k]):(l.take (k+1)).Nodup:=by
 rw [List.take_succ_eq_append_getElem h,List.nodup_append];refine ⟨hn,by simp,?_⟩
 intro a ha b hb
 simp at hb
 subst hb;rw [List.mem_take_iff_getElem] at ha;obtain ⟨j,hj,rfl⟩:=ha;exact hne j (by omega)
theorem aHe {α:Type} {l:List α} {j k:Nat} (hj:j<k) (hk:k<l.length) (he:l[j]=l[k]):¬ l.Nodup:=by
 intro hn
 have:=(List.nodup_iff_pairwise_ne.1 hn);rw [List.pairwise_iff_getElem] at this;exact this j k (by omega) hk hj he
theorem aNt (v:Value) (r:Rule) (vars:Nat) (w:World) (h:aWd w v r) (hvars:vars<=1000) (hL:aH1 r=true) :
  Calls prog 193 #[v,.int .i64 vars] w fun e w'=>e = .returned (.bool (aCv vars r))/\Bel w w':=by
 obtain ⟨G,c,S,c2,rfl,hG,_,_,hS,_,_⟩:=h;have HG:=aA1 (fun w' (k:Bel w w')=>aAr.keep hG k);clear hG;have HS:=aA1 (fun w' (k:Bel w w')=>aO5.keep hS k);clear hS;obtain ⟨_,l2,l3,l4⟩:=aCh hL;have HL4:=aA1 l4;clear l4 hL;have HB:=Bel.refl (w.alloc (.cells #[.string r.name,.slice G r.guard.length c,.slice S r.sets.length c2] 154))
 by_cases hn:1<=r.sets.length/\r.sets.length<=6
 .have hin:inB (r.sets.length:Int) 1 6=true:=aEi (by omega) (by omega)
  cases hvg:aB8 r.guard vars with
  | false =>
   have HF:Hid (aCv vars r=false):=aC6 fun h=>by rw [h.guard] at hvg;cases hvg
   go_enter func193,ntmps193
   go_wp2_with (first
    | (go_at_call 190;refine (aFl _ _ _ _).mono ?_;rintro e w' ⟨rfl,rfl⟩)
    | (go_at_call 147;refine (aFi _ _ _ r.guard _ _ (HG.out _ (aA3 HB)) (by omega)).mono ?_;rintro e w' ⟨rfl,hb⟩;rw [hvg];replace HB:=HB.trans hb;clear hb))
   go_ret;exact ⟨aA2 HF.out.symm,aA3 HB⟩
  | true =>
   have HVG:=aA1 hvg;clear hvg;go_enter func193,ntmps193
   go_wp2_with (first
    | (go_at_call 190;refine (aFl _ _ _ _).mono ?_;rintro e w' ⟨rfl,rfl⟩)
    | (go_at_call 147;refine (aFi _ _ _ r.guard _ _ (HG.out _ (aA3 HB)) (by omega)).mono ?_;rintro e w' ⟨rfl,hb⟩;rw [HVG.out];replace HB:=HB.trans hb;clear hb))
   clear hin
   go_loopg [5,6] r.sets.length (fun m z _y wr=>∃ j:Nat,j<=r.sets.length/\m=r.sets.length-j/\z = .int .i64 j/\Hid ((r.sets.take j).all (fun s=>decide (0<=s.var/\s.var<=(vars:Int)-1)&&aB8 s.value vars)=true/\((r.sets.map SetT.var).take j).Nodup)/\Bel (w.alloc (.cells #[.string r.name,.slice G r.guard.length c,.slice S r.sets.length c2] 154)) wr)
   case atStart=>exact ⟨0,by omega,rfl,rfl,⟨rfl,by simp⟩,HB⟩
   case round =>
    clear HB;obtain ⟨i,hi,rfl,rfl,HJ,HB⟩:=hrel;have q1:=aA9 HB 2 rfl;have q2:=aAz HB
    by_cases hlt:i<r.sets.length
    .have hd0:decide (i<r.sets.length)=true:=by simpa using hlt
     obtain ⟨b,o,R,c',rfl,hb,s1,s2,hTv,_,_⟩:=(HS.out _ (aA3 HB)).at_ i hlt;have HTv:=aA1 hTv;clear hTv;have hlen:=HL4.out _ (List.getElem_mem hlt)
     by_cases hr:0<=r.sets[i].var/\r.sets[i].var<=(vars:Int)-1
     .have hin:inB r.sets[i].var 0 ((vars:Int)-1)=true:=aEi hr.1 hr.2
      cases hvs:aB8 r.sets[i].value vars with
      | false =>
       have HF:Hid (aCv vars r=false):=aC6 fun h=>by have:=(h.sets _ (List.getElem_mem hlt)).2;rw [hvs] at this;cases this
       go_wp2_with (first
        | (go_at_call 190;refine (aFl _ _ _ _).mono ?_;rintro e w' ⟨rfl,rfl⟩)
        | (go_at_call 147;refine (aFi _ _ _ r.sets[i].value _ _ HTv.out (by omega)).mono ?_;rintro e w' ⟨rfl,hbb⟩;rw [hvs];replace HB:=HB.trans hbb;clear hbb))
       go_ret;exact ⟨aA2 HF.out.symm,aA3 HB⟩
      | true =>
       have HOK:=aA1 (show (decide (0<=r.sets[i].var/\r.sets[i].var<=(vars:Int)-1)&&aB8 r.sets[i].value vars)=true by rw [hvs,decide_eq_true hr];rfl)
       have HVS:=aA1 hvs;clear hvs hr
       go_wp2_with (first
        | (go_at_call 190;refine (aFl _ _ _ _).mono ?_;rintro e w' ⟨rfl,rfl⟩)
        | (go_at_call 147;refine (aFi _ _ _ r.sets[i].value _ _ HTv.out (by omega)).mono ?_;rintro e w' ⟨rfl,hbb⟩;rw [HVS.out];replace HB:=HB.trans hbb;clear hbb hb s1 s2 q1 q2;clear HTv))
       clear hin hd0
       go_loopg [6] i (fun m x ws=>∃ j:Nat,j<=i/\m=i-j/\x = .int .i64 j/\Hid (∀ q,(hq:q<j)->(hq':q<r.sets.length)->r.sets[q].var≠r.sets[i].var)/\Bel (w.alloc (.cells #[.string r.name,.slice G r.guard.length c,.slice (some ⟨b,o,none⟩) r.sets.length c2] 154)) ws)
       case atStart=>exact ⟨0,by omega,rfl,rfl,fun q hq=>absurd hq (by omega),HB⟩
       case round =>
        clear HB;obtain ⟨j,hj,rfl,rfl,HQ,HB⟩:=hrel;have q1:=aA9 HB 2 rfl;have q2:=aAz HB
        by_cases hlt2:j<i
        .have hji:j<r.sets.length:=by omega
         obtain ⟨b',o',R',c'',e',hb',s1',_,_,_,_⟩:=(HS.out _ (aA3 HB)).at_ j hji;obtain ⟨rfl,rfl⟩:b=b'/\o=o':=by simpa using e'
         obtain ⟨b',o',R',c'',e',_,s1,_,_,_,_⟩:=(HS.out _ (aA3 HB)).at_ i hlt;obtain ⟨rfl,rfl⟩:b=b'/\o=o':=by simpa using e'
         clear e';have hd:decide (j<i)=true:=by simpa using hlt2
         go_wp2
         go_quiet (fail)
         go_wp2
         .have he:(r.sets[j].var==r.sets[i].var)=true:=by assumption
          go_ret;refine ⟨aA2 ?_,(aA3 HB).drewN _⟩
          symm
          refine aC6 fun hf=>?_
          exact aHe hlt2 (by simpa using hlt) (by simpa using he) hf.diff
         .have he:(r.sets[j].var==r.sets[i].var)=false:=by assumption
          go_roundg (i-(j+1))
          case rel =>
           refine ⟨j+1,by omega,rfl,by go_num,?_,HB.drewN _⟩
           intro q hq hq'
           rcases Nat.lt_or_ge q j with h | h
           .exact HQ.out q h hq'
           .obtain rfl:q=j:=by omega
            simpa using he
          case measure=>omega
        .have hd:decide (j<i)=false:=by simpa using hlt2
         go_wp2
         go_roundg (r.sets.length-(i+1))
         case rel =>
          refine ⟨i+1,by omega,rfl,by go_num,⟨aAb hlt HJ.out.1 HOK.out,aCx (by simpa using hlt) HJ.out.2 ?_⟩,HB⟩
          intro q hq
          have:=HQ.out q (by omega) (by omega)
          simpa using this
         case measure=>omega
     .have hin:inB r.sets[i].var 0 ((vars:Int)-1)=false:=by
       rw [aEh];omega
      have HF:Hid (aCv vars r=false):=aC6 fun h=>hr (h.sets _ (List.getElem_mem hlt)).1;clear hr
      go_wp2_with (go_at_call 190;refine (aFl _ _ _ _).mono ?_;rintro e w' ⟨rfl,rfl⟩)
      go_ret;exact ⟨aA2 HF.out.symm,aA3 HB⟩
    .have hd0:decide (i<r.sets.length)=false:=by simpa using hlt
     go_wp2_with fail
     go_ret;refine ⟨aA2 ?_,aA3 HB⟩
     symm
     rw [aG6];obtain ⟨a1,a2⟩:=HJ.out;rw [List.take_of_length_le (by omega)] at a1
     rw [List.take_of_length_le (by simp;omega)] at a2
     refine ⟨hn.1,hn.2,HVG.out,fun s hs=>?_,a2⟩
     have:=List.all_eq_true.1 a1 s hs;rw [Bool.and_eq_true] at this;exact ⟨of_decide_eq_true this.1,this.2⟩
 .have hin:inB (r.sets.length:Int) 1 6=false:=by rw [aEh];omega
  have HF:Hid (aCv vars r=false):=aC6 fun h=>hn ⟨h.pos,h.le⟩;clear hn;go_enter func193,ntmps193
  go_wp2_with (go_at_call 190;refine (aFl _ _ _ _).mono ?_;rintro e w' ⟨rfl,rfl⟩)
  go_ret;exact ⟨aA2 HF.out.symm,aA3 HB⟩
def aIa (l:List ByteArray):Bool:=l.all aG9&&decide l.Nodup
def aDh (p:Prg):Bool:=aG9 p.name&&aIa (p.vars.map Var.name)&&aIa (p.rules.map Rule.name)
theorem bH9 {a b:ByteArray} (h:(a.toList==b.toList)=true):a=b:=by
 have h1:a.toList=b.toList:=by simpa using h
 rw [Lib.toList_data,Lib.toList_data] at h1;cases a;cases b
 simp only [ByteArray.mk.injEq]
 exact Array.toList_inj.1 h1
theorem bKa {a b:ByteArray} (h:(a.toList==b.toList)=false):a≠b:=by
 rintro rfl;simp at h
theorem aCw (l:List ByteArray):aIa l=true↔(∀ s∈l,aG9 s=true)/\l.Nodup:=by
 unfold aIa;simp only [Bool.and_eq_true,decide_eq_true_eq,List.all_eq_true]
theorem aH7 {p:Prg} (h:¬ aIa (p.vars.map Var.name)=true):aDh p=false:=by
 unfold aDh;rw [Bool.eq_false_iff.2 h];simp
theorem aH8 {p:Prg} (h:¬ aIa (p.rules.map Rule.name)=true):aDh p=false:=by
 unfold aDh;rw [Bool.eq_false_iff.2 h];simp
theorem aPg (v:Value) (p:Prg) (w:World) (h:aE0 w v p) (hL:aAt p=true) :
  Calls prog 191 #[v] w fun e w'=>e = .returned (.bool (aDh p))/\Bel w w':=by
 obtain ⟨A,k,A2,k2,rfl,hV,_,_,hR,_,_⟩:=h;have HV:=aA1 (fun w' (k:Bel w w')=>aKh.keep hV k);clear hV;have HR:=aA1 (fun w' (k:Bel w w')=>aHg.keep hR k);clear hR;obtain ⟨p1,p2,p3,p4,p5⟩:=aAi hL;have HP4:=aA1 p4;have HP5:=aA1 (fun r hr=>(aCh (p5 r hr)).1);clear p4 p5 hL;have HB:=Bel.refl (w.alloc (.cells #[.string p.name,.slice A p.vars.length k,.slice A2 p.rules.length k2] 25));cases hnm:aG9 p.name with
 | false =>
  have HF:Hid (aDh p=false):=by show aDh p=false;unfold aDh;rw [hnm];rfl
  go_enter func191,ntmps191
  go_wp2_with (go_at_call 241;refine (aGd _ _ (by omega)).mono ?_;rintro e w' ⟨rfl,rfl⟩)
  go_ret;exact ⟨aA2 HF.out.symm,aA3 HB⟩
 | true =>
  have HNM:=aA1 hnm;go_enter func191,ntmps191
  go_wp2_with (go_at_call 241;refine (aGd _ _ (by omega)).mono ?_;rintro e w' ⟨rfl,rfl⟩)
  clear hnm
  go_loopg [3,4] p.vars.length (fun m z _y wr=>∃ j:Nat,j<=p.vars.length/\m=p.vars.length-j/\z = .int .i64 j/\Hid ((∀ q,q<j->(hq:q<p.vars.length)->aG9 p.vars[q].name=true)/\((p.vars.map Var.name).take j).Nodup)/\Bel (w.alloc (.cells #[.string p.name,.slice A p.vars.length k,.slice A2 p.rules.length k2] 25)) wr)
  case atStart=>exact ⟨0,by omega,rfl,rfl,⟨fun q hq=>absurd hq (by omega),by simp⟩,HB⟩
  case round =>
   clear HB;obtain ⟨i,hi,rfl,rfl,HJ,HB⟩:=hrel;have q1:=aA9 HB 1 rfl;have q2:=aAz HB
   by_cases hlt:i<p.vars.length
   .have hd0:decide (i<p.vars.length)=true:=by simpa using hlt
    have hnl:=HP4.out _ (List.getElem_mem hlt);go_wp2;clear hd0 q1 q2
    go_loopg [4] i (fun m x ws=>∃ j:Nat,j<=i/\m=i-j/\x = .int .i64 j/\Hid (∀ q,(hq:q<j)->(hq':q<p.vars.length)->p.vars[q].name≠p.vars[i].name)/\Bel (w.alloc (.cells #[.string p.name,.slice A p.vars.length k,.slice A2 p.rules.length k2] 25)) ws)
    case atStart=>exact ⟨0,by omega,rfl,rfl,fun q hq=>absurd hq (by omega),HB⟩
    case round =>
     clear HB;obtain ⟨j,hj,rfl,rfl,HQ,HB⟩:=hrel;have q1:=aA9 HB 1 rfl;have q2:=aAz HB;obtain ⟨b,o,rfl,hb,hc,_⟩:=(HV.out _ (aA3 HB)).at_ i hlt
     by_cases hlt2:j<i
     .have hji:j<p.vars.length:=by omega
      obtain ⟨b',o',e',hb',hc',_⟩:=(HV.out _ (aA3 HB)).at_ j hji;obtain ⟨rfl,rfl⟩:b=b'/\o=o':=by simpa using e'
      clear e';have hd:decide (j<i)=true:=by simpa using hlt2
      go_wp2
      go_quiet (fail)
      go_wp2
      .have he:(p.vars[j].name.toList==p.vars[i].name.toList)=true:=by assumption
       go_ret;refine ⟨aA2 ?_,(aA3 HB).drewN _⟩
       symm
       refine aH7 fun hf=>?_
       exact aHe hlt2 (by simpa using hlt) (by simpa using bH9 he) ((aCw _).1 hf).2
      .have he:(p.vars[j].name.toList==p.vars[i].name.toList)=false:=by assumption
       go_roundg (i-(j+1))
       case rel =>
        refine ⟨j+1,by omega,rfl,by go_num,?_,HB.drewN _⟩
        intro q hq hq'
        rcases Nat.lt_or_ge q j with h | h
        .exact HQ.out q h hq'
        .obtain rfl:q=j:=by omega
         exact bKa he
       case measure=>omega
     .have hd:decide (j<i)=false:=by simpa using hlt2
      cases hnn:aG9 p.vars[i].name with
      | false =>
       have HF:Hid (aDh p=false):=aH7 fun hf=>by
        have:=((aCw _).1 hf).1 p.vars[i].name (List.mem_map_of_mem (List.getElem_mem hlt));rw [hnn] at this;cases this
       go_wp2_with (go_at_call 241;refine (aGd _ _ (by omega)).mono ?_;rintro e w' ⟨rfl,rfl⟩)
       go_ret;exact ⟨aA2 HF.out.symm,aA3 HB⟩
      | true =>
       have HNN:=aA1 hnn
       go_wp2_with (go_at_call 241;refine (aGd _ _ (by omega)).mono ?_;rintro e w' ⟨rfl,rfl⟩)
       go_roundg (p.vars.length-(i+1))
       case rel =>
        refine ⟨i+1,by omega,rfl,by go_num,⟨?_,aCx (by simpa using hlt) HJ.out.2 ?_⟩,HB⟩
        .intro q hq hq'
         rcases Nat.lt_or_ge q i with h | h
         .exact HJ.out.1 q h hq'
         .obtain rfl:q=i:=by omega
          exact HNN.out
        .intro q hq
         have:=HQ.out q (by omega) (by omega)
         simpa using this
       case measure=>omega
   .have hd0:decide (i<p.vars.length)=false:=by simpa using hlt
    have HE:Hid (aIa (p.vars.map Var.name)=true):=by
     show aIa (p.vars.map Var.name)=true
     rw [aCw];obtain ⟨a1,a2⟩:=HJ.out;rw [List.take_of_length_le (by simp;omega)] at a2
     refine ⟨fun s hs=>?_,a2⟩
     obtain ⟨x,hx,rfl⟩:=List.mem_map.1 hs;obtain ⟨q,hq,rfl⟩:=List.getElem_of_mem hx;exact a1 q (by omega) hq
    have HE1:=HE;clear HE HJ
    go_wp2_with fail
    clear hd0 q1 q2 hi hlt
    go_loopg [5,6] p.rules.length (fun m z _y wr=>∃ j:Nat,j<=p.rules.length/\m=p.rules.length-j/\z = .int .i64 j/\Hid ((∀ q,q<j->(hq:q<p.rules.length)->aG9 p.rules[q].name=true)/\((p.rules.map Rule.name).take j).Nodup)/\Bel (w.alloc (.cells #[.string p.name,.slice A p.vars.length k,.slice A2 p.rules.length k2] 25)) wr)
    case atStart=>exact ⟨0,by omega,rfl,rfl,⟨fun q hq=>absurd hq (by omega),by simp⟩,HB⟩
    case round =>
     clear HB;obtain ⟨i,hi,rfl,rfl,HJ,HB⟩:=hrel;have q1:=aA9 HB 2 rfl;have q2:=aAz HB
     by_cases hlt:i<p.rules.length
     .have hd0:decide (i<p.rules.length)=true:=by simpa using hlt
      have hnl:=HP5.out _ (List.getElem_mem hlt);go_wp2;clear hd0 q1 q2
      go_loopg [6] i (fun m x ws=>∃ j:Nat,j<=i/\m=i-j/\x = .int .i64 j/\Hid (∀ q,(hq:q<j)->(hq':q<p.rules.length)->p.rules[q].name≠p.rules[i].name)/\Bel (w.alloc (.cells #[.string p.name,.slice A p.vars.length k,.slice A2 p.rules.length k2] 25)) ws)
      case atStart=>exact ⟨0,by omega,rfl,rfl,fun q hq=>absurd hq (by omega),HB⟩
      case round =>
       clear HB;obtain ⟨j,hj,rfl,rfl,HQ,HB⟩:=hrel;have q1:=aA9 HB 2 rfl;have q2:=aAz HB;obtain ⟨b,o,G1,c1,S1,c2,rfl,hb,hc,_⟩:=(HR.out _ (aA3 HB)).at_ i hlt
       by_cases hlt2:j<i
       .have hji:j<p.rules.length:=by omega
        obtain ⟨b',o',G2,c1p,S2,c2p,e',hb',hc',_⟩:=(HR.out _ (aA3 HB)).at_ j hji;obtain ⟨rfl,rfl⟩:b=b'/\o=o':=by simpa using e'
        clear e';have hd:decide (j<i)=true:=by simpa using hlt2
        go_wp2
        go_quiet (fail)
        go_wp2
        .have he:(p.rules[j].name.toList==p.rules[i].name.toList)=true:=by assumption
         go_ret;refine ⟨aA2 ?_,(aA3 HB).drewN _⟩
         symm
         refine aH8 fun hf=>?_
         exact aHe hlt2 (by simpa using hlt) (by simpa using bH9 he) ((aCw _).1 hf).2
        .have he:(p.rules[j].name.toList==p.rules[i].name.toList)=false:=by assumption
         go_roundg (i-(j+1))
         case rel =>
          refine ⟨j+1,by omega,rfl,by go_num,?_,HB.drewN _⟩
          intro q hq hq'
          rcases Nat.lt_or_ge q j with h | h
          .exact HQ.out q h hq'
          .obtain rfl:q=j:=by omega
           exact bKa he
         case measure=>omega
       .have hd:decide (j<i)=false:=by simpa using hlt2
        cases hnn:aG9 p.rules[i].name with
        | false =>
         have HF:Hid (aDh p=false):=aH8 fun hf=>by
          have:=((aCw _).1 hf).1 p.rules[i].name (List.mem_map_of_mem (List.getElem_mem hlt));rw [hnn] at this;cases this
         go_wp2_with (go_at_call 241;refine (aGd _ _ (by omega)).mono ?_;rintro e w' ⟨rfl,rfl⟩)
         go_ret;exact ⟨aA2 HF.out.symm,aA3 HB⟩
        | true =>
         have HNN:=aA1 hnn
         go_wp2_with (go_at_call 241;refine (aGd _ _ (by omega)).mono ?_;rintro e w' ⟨rfl,rfl⟩)
         go_roundg (p.rules.length-(i+1))
         case rel =>
          refine ⟨i+1,by omega,rfl,by go_num,⟨?_,aCx (by simpa using hlt) HJ.out.2 ?_⟩,HB⟩
          .intro q hq hq'
           rcases Nat.lt_or_ge q i with h | h
           .exact HJ.out.1 q h hq'
           .obtain rfl:q=i:=by omega
            exact HNN.out
          .intro q hq
           have:=HQ.out q (by omega) (by omega)
           simpa using this
         case measure=>omega
     .have hd0:decide (i<p.rules.length)=false:=by simpa using hlt
      have HE:Hid (aIa (p.rules.map Rule.name)=true):=by
       show aIa (p.rules.map Rule.name)=true
       rw [aCw];obtain ⟨a1,a2⟩:=HJ.out;rw [List.take_of_length_le (by simp;omega)] at a2
       refine ⟨fun s hs=>?_,a2⟩
       obtain ⟨x,hx,rfl⟩:=List.mem_map.1 hs;obtain ⟨q,hq,rfl⟩:=List.getElem_of_mem hx;exact a1 q (by omega) hq
      go_wp2_with fail
      go_ret;refine ⟨aA2 ?_,aA3 HB⟩
      symm
      unfold aDh;rw [HNM.out,HE1.out,HE.out];rfl
end Go.Proofs.YtmifhmdghfbalaaGreatDoor

