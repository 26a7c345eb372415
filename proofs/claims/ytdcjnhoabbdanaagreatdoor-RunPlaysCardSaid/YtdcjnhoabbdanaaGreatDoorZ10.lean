/- Merged. -/
import Derived.Test.YtdcjnhoabbdanaaGreatDoorZ09
import Derived.Test.YtdcjnhoabbdanaaGreatDoorZ08
import Derived.Deep.RegionHeld3
import Derived.Test.YtdcjnhoabbdanaaGreatDoorZ07
import Derived.Lib.Strings
set_option linter.unusedSimpArgs false
set_option linter.unnecessarySimpa false
set_option linter.unusedVariables false
set_option maxRecDepth 100000
set_option maxHeartbeats 4000000
open Go.Proofs.Tryz

namespace Go.Proofs.YtdcjnhoabbdanaaGreatDoor
open Go.RowKit
theorem aD0 {v lo hi:Int}:inB v lo hi=false↔v<lo∨hi<v:=by unfold inB;simp;omega
theorem aWk (A:Option Addr) (c:Nat) (es:List Term) (K:Option Addr) (ck:Nat) (kinds:List Int) (bound:Bool) (w:World) (hT:aAw w A es.length es) (hK:aBk w K kinds.length kinds) (hlen:es.length<=1000) :
  Calls prog 162 #[.slice A es.length c,.slice K kinds.length ck,.bool bound] w fun e w'=>e = .returned (.tuple #[.int .i64 (ofF es kinds bound).1,.int .i64 (ofF es kinds bound).2])/\Bel w w':=by
 have HT:=aA0 (fun w' (k:Bel w w')=>aAw.keep hT k);clear hT;have HK:=aA0 (fun w' (k:Bel w w')=>aBk.keep hK k);clear hK
 by_cases h6:6<kinds.length
 .have HF:Hid (ofF es kinds bound=(0,7)):=by show ofF es kinds bound=_;unfold ofF;rw [if_pos h6]
  have hd:decide (6<kinds.length)=true:=by simpa using h6
  go_enter func162,ntmps162
  go_wp2_with fail
  go_ret2
  rw [HF.out];exact ⟨rfl,Bel.refl _⟩
 .have hd:decide (6<kinds.length)=false:=by simpa using h6
  have h6':kinds.length<=6:=by omega
  go_enter func162,ntmps162
  go_wp2_with fail
  clear hd
  go_loopg [9,18] kinds.length (fun m _x z wr=>∃ j:Nat,j<=kinds.length/\m=kinds.length-j/\Hid ((kinds.take j).all aDq=true)/\z = .int .i64 j/\w=wr)
  case atStart=>exact ⟨0,by omega,rfl,rfl,rfl,rfl⟩
  case round =>
   obtain ⟨j,hj,rfl,HJ,rfl,rfl⟩:=hrel
   by_cases hlt:j<kinds.length
   .have hd0:decide (j<kinds.length)=true:=by simpa using hlt
    obtain ⟨b,o,rfl,hb,hc⟩:=(HK.out _ (Bel.refl _)).at_ j hlt;cases hk:aDq kinds[j] with
    | false =>
     have HF:Hid (ofF es kinds bound=(0,7)):=by show ofF es kinds bound=_;unfold ofF;rw [if_neg h6,if_pos (aAj hlt hk)]
     go_wp2_with (go_at_call 159;refine (aEe _ _).mono ?_;rintro e w' ⟨rfl,rfl⟩)
     go_ret2
     rw [HF.out];exact ⟨rfl,Bel.refl _⟩
    | true =>
     have HN:=aA0 (aA9 hlt HJ.out hk)
     go_wp2_with (go_at_call 159;refine (aEe _ _).mono ?_;rintro e w' ⟨rfl,rfl⟩)
     go_roundg (kinds.length-(j+1))
     case rel=>exact ⟨j+1,by omega,rfl,HN,by go_num,rfl⟩
     case measure=>omega
   .have hd0:decide (j<kinds.length)=false:=by simpa using hlt
    have HA:=aA0 (aAk (by omega) HJ.out)
    clear HJ hlt;have HB:=Bel.refl w;cases hv:aAy es kinds.length with
    | false =>
     have HF:Hid (ofF es kinds bound=(0,7)):=by show ofF es kinds bound=_;unfold ofF;rw [if_neg h6,if_neg (by rw [HA.out];decide),if_pos hv]
     go_wp2_with (go_at_call 161;refine (aGc _ _ _ es _ _ (HT.out _ HB) (by omega)).mono ?_;rintro e w' ⟨rfl,hbb⟩;replace HB:=HB.trans hbb;clear hbb;rw [hv])
     go_ret2
     rw [HF.out];exact ⟨rfl,HB⟩
    | true =>
     obtain ⟨v1,v2,v3,v4,_,_⟩:=aEg hv;have HV4:=aA0 v4;have HAT:=aA0 (At.whole v1 v2);have HVV:=aA0 hv
     have HF:Hid (ofF es kinds bound=if aB0 kinds bound (aAo es)=0 then (0,6) else (aB0 kinds bound (aAo es),0)):=by
      show ofF es kinds bound=_
      unfold ofF;rw [if_neg h6,if_neg (by rw [HA.out];decide),if_neg (by rw [hv];decide)]
     clear v1 v2 v3 v4 hv h6
     go_wp2_with (first
      | (go_at_call 161;refine (aGc _ _ _ es _ _ (HT.out _ HB) (by omega)).mono ?_;rintro e w' ⟨rfl,hbb⟩;replace HB:=HB.trans hbb;clear hbb;rw [HVV.out])
      | (go_at_call 179;replace HB:=HB.alloc (.cells #[.slice A es.length c,.slice K kinds.length ck] 205);refine (aYp kinds (aAo es) bound _ _ es K ck 0 _ HAT.out (HT.out _ HB) (HK.out _ HB) HV4.out hlen).mono ?_;rintro e w' ⟨rfl,hbb⟩;replace HB:=HB.trans hbb;clear hbb))
     all_goals (try simp only [beq_iff_eq,beq_eq_false_iff_ne] at *)
     all_goals (go_ret2;refine ⟨?_,HB⟩;rw [HF.out];simp_all)
def aBm (x:Var):Bool :=
 decide ((x.kind≠1/\(x.kind=2∨x.kind=3)/\x.lo=0/\x.hi=0/\x.perNode=0/\x.perID=0)
  ∨ (x.kind=1/\(0<=x.lo/\x.lo<=4096)/\(0<=x.perNode/\x.perNode<=255)/\(0<=x.perID/\x.perID<=255)/\(x.perNode=0∨x.perID=0) /\ -4096<=x.hi/\x.hi<=4096/\(x.perNode≠0∨x.perID≠0∨0<=x.hi)))
def aVa (x:Var):Value := .agg #[.string x.name,.int .i64 x.kind,.int .i64 x.lo,.int .i64 x.hi,.int .i64 x.perNode,.int .i64 x.perID]
theorem aMr (x:Var) (w:World):Calls prog 140 #[aVa x] w fun e w'=>e = .returned (.bool (aBm x))/\Bel w w':=by
 obtain ⟨name,kind,lo,hi,pn,pi⟩:=x;unfold aVa;dsimp only;have HF:Hid (aBm ⟨name,kind,lo,hi,pn,pi⟩=true↔_):=(decide_eq_true_iff);dsimp only at HF
 by_cases hk:kind=1
 .subst hk
  have hp:aDq 1=true:=rfl;go_enter func140,ntmps140
  go_wp2_with (first
   | (go_at_call 159;refine (aEe _ _).mono ?_;rintro e w' ⟨rfl,rfl⟩;rw [hp])
   | (go_at_call 160;refine (aGd _ _ _ _).mono ?_;rintro e w' ⟨rfl,rfl⟩))
  all_goals (try simp only [beq_iff_eq,beq_eq_false_iff_ne,bne_iff_ne,bne_eq_false_iff_eq,aK9,aD0,Bool.not_eq_true',Bool.not_eq_eq_eq_not,Bool.not_true,Bool.not_false] at *)
  all_goals (go_ret;refine ⟨aA2 ?_,(Bel.refl _).alloc _⟩;rw [Bool.eq_iff_iff,HF.out];simp only [aK9,Bool.false_eq_true,false_iff,true_and];omega)
 .have hne:(kind != 1)=true:=by simpa using hk
  cases hkk:aDq kind with
  | false =>
   have hk2:¬ (kind=1∨kind=2∨kind=3):=by
    intro h;unfold aDq at hkk;simp at hkk;omega
   go_enter func140,ntmps140
   go_wp2_with (go_at_call 159;refine (aEe _ _).mono ?_;rintro e w' ⟨rfl,rfl⟩;rw [hkk])
   go_ret;refine ⟨aA2 ?_,(Bel.refl _).alloc _⟩
   symm
   rw [Bool.eq_false_iff,ne_eq,HF.out];omega
  | true =>
   have hk2:kind=2∨kind=3:=by
    unfold aDq at hkk;simp at hkk;omega
   have HK2:=aA0 hk2;clear hk2;go_enter func140,ntmps140
   go_wp2_with (go_at_call 159;refine (aEe _ _).mono ?_;rintro e w' ⟨rfl,rfl⟩;rw [hkk])
   all_goals
    have hk2:=HK2.out;go_ret;refine ⟨aA2 ?_,(Bel.refl _).alloc _⟩
    rw [Bool.eq_iff_iff,HF.out];simp only [beq_iff_eq,Bool.false_eq_true,false_iff]
    omega
theorem aIj (x:Var) (w:World):Calls prog 147 #[aVa x] w fun e w'=>e = .returned (.bool (aBm x))/\Bel w w':=by
 obtain ⟨name,kind,lo,hi,pn,pi⟩:=x;unfold aVa;dsimp only;have HF:Hid (aBm ⟨name,kind,lo,hi,pn,pi⟩=true↔_):=(decide_eq_true_iff);dsimp only at HF
 by_cases hk:kind=1
 .subst hk
  go_enter func147,ntmps147
  go_wp2_with (go_at_call 145;refine (aDp _ _ _ _).mono ?_;rintro e w' ⟨rfl,rfl⟩)
  all_goals (try simp only [beq_iff_eq,beq_eq_false_iff_ne,bne_iff_ne,bne_eq_false_iff_eq,aK9,aD0,Bool.not_eq_true',Bool.not_eq_eq_eq_not,Bool.not_true,Bool.not_false] at *)
  all_goals (go_ret;refine ⟨aA2 ?_,(Bel.refl _).alloc _⟩;rw [Bool.eq_iff_iff,HF.out];simp only [aK9,Bool.false_eq_true,false_iff,true_and];omega)
 .have hne:(kind != 1)=true:=by simpa using hk
  cases hkk:aDq kind with
  | false =>
   have hk2:¬ (kind=1∨kind=2∨kind=3):=by
    intro h;unfold aDq at hkk;simp at hkk;omega
   go_enter func147,ntmps147
   go_wp2_with (go_at_call 168;refine (aL2 _ _).mono ?_;rintro e w' ⟨rfl,rfl⟩;rw [hkk])
   go_ret;refine ⟨aA2 ?_,(Bel.refl _).alloc _⟩
   symm
   rw [Bool.eq_false_iff,ne_eq,HF.out];omega
  | true =>
   have hk2:kind=2∨kind=3:=by
    unfold aDq at hkk;simp at hkk;omega
   have HK2:=aA0 hk2;clear hk2;go_enter func147,ntmps147
   go_wp2_with (go_at_call 168;refine (aL2 _ _).mono ?_;rintro e w' ⟨rfl,rfl⟩;rw [hkk])
   all_goals
    have hk2:=HK2.out;go_ret;refine ⟨aA2 ?_,(Bel.refl _).alloc _⟩
    rw [Bool.eq_iff_iff,HF.out];simp only [beq_iff_eq,Bool.false_eq_true,false_iff]
    omega
def aVd (l:List Int) (w:World) (e:Ending) (w':World):Prop:=∃ A c,e = .returned (.slice A l.length c)/\aBk w' A l.length l/\l.length<=c/\c<=maxLen/\Bel w w'
def aM7 (l:List Int) (k:Nat):List Int:=l.take k++List.replicate (l.length-k) 0
theorem aBa {w:World} {base:Nat} {e:TypeId} {size g n c:Nat} {xs:List Value} (h:w.ownsRow base e size (.slice (some ⟨g,0,none⟩) n c) n xs):base<=g/\g<w.heap.size:=by
 rcases h.2 with ⟨hv,_⟩ | ⟨g',cap,cur,hv,hb,hg,_⟩
 .cases hv
 .injection hv with hA;injection hA with hA;injection hA with hA;subst hA;exact ⟨hb,lt_of_block hg⟩
theorem aU8 (l:List Int):aM7 l 0=List.replicate l.length 0:=by simp [aM7]
theorem aU6 (l:List Int) (k:Nat) (h:l.length<=k):aM7 l k=l:=by simp [aM7,List.take_of_length_le h,show l.length-k=0 by omega]
theorem aVx (l:List Int) (k:Nat) (h:k<l.length):(aM7 l k)[k]?=some 0:=by
 unfold aM7;rw [List.getElem?_append_right (by simp;omega)]
 rw [List.length_take,Nat.min_eq_left (Nat.le_of_lt h),Nat.sub_self,List.getElem?_replicate,if_pos (by omega)]
theorem aU7 (l:List Int) (k:Nat) (h:k<l.length):(aM7 l k).set k l[k]=aM7 l (k+1):=by
 unfold aM7;rw [List.set_append_right _ _ (by simp;omega),List.length_take,Nat.min_eq_left (Nat.le_of_lt h),Nat.sub_self,show l.length-k=(l.length-(k+1))+1 by omega,List.replicate_succ,List.set_cons_zero]
 conv=>rhs;rw [List.take_succ_eq_append_getElem h,List.append_assoc]
 rfl
theorem aW8 (v:Value) (p:Prg) (w:World) (h:aEk w v p) (hl:p.vars.length<=1000) :
  Calls prog 142 #[v] w (aVd (aBg p) w):=by
 obtain ⟨A,k,A2,k2,rfl,hV,_,_,_,_,_⟩:=h;have HV:=aA0 (fun w' (k:Bel w w')=>aH8.keep hV k);clear hV;obtain ⟨i0,hi0,hz0,hz1,hz2⟩:=info_parts aGn;have HN:Hid ((aBg p).length=p.vars.length):=by show (aBg p).length=_;simp [aBg]
 have HB0:=(Bel.refl w).alloc (.cells #[.string p.name,.slice A p.vars.length k,.slice A2 p.rules.length k2] 25);go_enter func142,ntmps142
 go_wp2_with (at_make;refine aFd _ rfl 26 (.tmp 8) (.tmp 8) rfl (w.heap.size+1) 3 i0 (.int .i64 0) 1 underlying26 hi0 hz0 hz1 .i64 .i64 p.vars.length rfl rfl (by rw [hz2];omega) (by unfold maxLen;omega) (by simp) ?_;intro g w2 hown hb2;have q1:=aA7 hb2 1 rfl;have q2:=aAu hb2;have HB:=HB0.trans hb2;rw [aJh _ rfl] at hown;have HO:=aA0 hown;have HK2:=aA0 hb2;clear hown hb2 HB0)
 have hg:=aBa HO.out
 have H0:Hid (w2.ownsRow (w.heap.size+1) 3 1 (.slice (some ⟨g,0,none⟩) p.vars.length p.vars.length) p.vars.length ((aM7 (aBg p) 0).map (Value.int .i64))):=by
  show World.ownsRow _ _ _ _ _ _ _
  rw [aU8,HN.out,List.map_replicate];exact HO.out
 clear HO
 go_loopg [4,5,13] p.vars.length (fun m _x _y z wr=>∃ j:Nat,j<=p.vars.length/\m=p.vars.length-j/\z = .int .i64 j/\Hid (wr.ownsRow (w.heap.size+1) 3 1 (.slice (some ⟨g,0,none⟩) p.vars.length p.vars.length) p.vars.length ((aM7 (aBg p) j).map (Value.int .i64)))/\Bel w wr)
 case atStart=>exact ⟨0,by omega,rfl,rfl,H0,HB⟩
 case round =>
  clear HB H0 HK2 q1 q2;obtain ⟨j,hj,rfl,rfl,HO,HB⟩:=hrel
  by_cases hlt:j<p.vars.length
  .have hd0:decide (j<p.vars.length)=true:=by simpa using hlt
   obtain ⟨b,o,rfl,hb,v0,v1,v2,v3,v4,v5⟩:=(HV.out _ HB).at_ j hlt;obtain ⟨g',e',_,hgl,y1,y2⟩:=aDb HO.out (j:=j) (u := .int .i64 0) (by rw [List.getElem?_map,aVx _ _ (by rw [HN.out];exact hlt)];rfl)
   obtain rfl:g=g':=by simpa using e'
   have hst:=(HO.out.stored j (.int .i64 p.vars[j].kind)).1.alloc (.cells #[.string p.vars[j].name,.int .i64 p.vars[j].kind,.int .i64 p.vars[j].lo,.int .i64 p.vars[j].hi,.int .i64 p.vars[j].perNode,.int .i64 p.vars[j].perID] 100);rw [<- List.map_set,show p.vars[j].kind=(aBg p)[j]'(by rw [HN.out];exact hlt) by simp [aBg],aU7 _ _ (by rw [HN.out];exact hlt)] at hst
   have HST:=aA0 hst;have HKE:=aA0 (show (aBg p)[j]'(by rw [HN.out];exact hlt)=p.vars[j].kind by simp [aBg])
   have hne:wr.heap.size≠g:=by omega
   clear hst e'
   go_wp2_with fail
   go_roundg (p.vars.length-(j+1))
   case rel=>exact ⟨j+1,by omega,rfl,by go_num,by rw [HKE.out] at HST;exact HST,(HB.setCell (by simp;omega) _).alloc _⟩
   case measure=>omega
  .have hd0:decide (j<p.vars.length)=false:=by simpa using hlt
   go_wp2_with fail
   go_ret;have h1:=HO.out;rw [aU6 _ _ (by rw [HN.out];omega)] at h1
   refine ⟨some ⟨g,0,none⟩,p.vars.length,by rw [HN.out];rfl,by rw [HN.out];exact aJp h1,by rw [HN.out];exact Nat.le_refl _,by unfold maxLen;omega,HB⟩
theorem Bel.pushB {w wr w':World} {base:Nat} {e:TypeId} {size:Nat} {v:Value} {n:Nat} {xs:List Value} (h:Bel w wr) (ho:wr.ownsRow base e size v n xs) (hb:w.heap.size<=base) (hg:wr.grownBy w' v.ownBlock):Bel w w' :=
 h.grown hg (fun k hk=>Nat.le_trans hb (ho.lt k hk).1)
theorem aR0 (v:Value) (p:Prg) (w:World) (h:aEk w v p) (hl:p.vars.length<=1000) :
  Calls prog 150 #[v] w (aVd (aBg p) w):=by
 obtain ⟨A,k,A2,k2,rfl,hV,_,_,_,_,_⟩:=h;have HV:=aA0 (fun w' (k:Bel w w')=>aH8.keep hV k);clear hV;obtain ⟨i0,hi0,hz0,hz1,hz2⟩:=info_parts aGn;have HN:Hid ((aBg p).length=p.vars.length):=by show (aBg p).length=_;simp [aBg]
 go_enter func150,ntmps150;go_wp2
 go_loopg [3,4] p.vars.length (fun m s z wr=>∃ (j:Nat) (R:Option Addr) (rc:Nat),j<=p.vars.length/\m=p.vars.length-j/\z = .int .i64 j/\s = .slice R j rc/\Hid (wr.ownsRow (w.heap.size+1) 3 1 (.slice R j rc) j (((aBg p).take j).map (Value.int .i64)))/\Bel (w.alloc (.cells #[.string p.name,.slice A p.vars.length k,.slice A2 p.rules.length k2] 25)) wr)
 case atStart=>exact ⟨0,none,0,by omega,rfl,rfl,rfl,World.ownsRow_nil _ _ _ _,Bel.refl _⟩
 case round =>
  obtain ⟨j,R,rc,hj,rfl,rfl,rfl,HO,HB⟩:=hrel;have q1:=aA7 HB 1 rfl;have q2:=aAu HB
  by_cases hlt:j<p.vars.length
  .have hd0:decide (j<p.vars.length)=true:=by simpa using hlt
   obtain ⟨b,o,rfl,hb,v0,v1,v2,v3,v4,v5⟩:=(HV.out _ (aA3 HB)).at_ j hlt
   have HT:Hid (((aBg p).take (j+1)).map (Value.int .i64)=((aBg p).take j).map (Value.int .i64)++[.int .i64 p.vars[j].kind]):=by
    show ((aBg p).take (j+1)).map (Value.int .i64)=_
    rw [List.take_succ_eq_append_getElem (by rw [HN.out];exact hlt),List.map_append]
    simp [aBg]
   go_wp2_with (at_builtin;refine aE7 _ rfl (.tmp 12) (.tmp 19) 26 rfl (w.heap.size+1) 3 i0 (.int .i64 0) 1 8 underlying26 hi0 hz0 hz1 hz2 rfl (by decide) R j rc _ (by simp [Act.eval]) (HO.out.alloc _) wr.heap.size #[.int .i64 p.vars[j].kind] 3 (0,0) (by simp [Act.eval]) (aFi _ _) rfl (aMs _ _) (by unfold maxLen;omega) (by omega) (by simp;omega) ?_;intro R2 rc2 w2 hown hgr hat;have HB2:=(HB.alloc _).pushB (HO.out.alloc _) (by simp) hgr;have HO2:=aA0 hown;clear hown hgr hat)
   go_roundg (p.vars.length-(j+1))
   case rel =>
    refine ⟨j+1,R2,rc2,by omega,rfl,by go_num,rfl,?_,HB2⟩
    show World.ownsRow _ _ _ _ _ _ _
    rw [HT.out];exact HO2.out
   case measure=>omega
  .obtain rfl:j=p.vars.length:=by omega
   have hd0:decide (p.vars.length<p.vars.length)=false:=by simp
   go_wp2_with fail
   go_ret;have h1:=HO.out;rw [List.take_of_length_le (by rw [HN.out];exact Nat.le_refl _)] at h1
   refine ⟨R,rc,by rw [HN.out];rfl,by rw [HN.out];exact aJp h1,by rw [HN.out];exact (aDv h1).1,(aDv h1).2,aA3 HB⟩
def aC0 (vars:Nat) (r:Rule):Bool :=
 decide (1<=r.sets.length/\r.sets.length<=6)&&aAy r.guard vars&&r.sets.all (fun s=>decide (0<=s.var/\s.var<=(vars:Int)-1)&&aAy s.value vars)&&decide ((r.sets.map SetT.var).Nodup)
def aBx (kinds:List Int) (r:Rule):Bool:=(aB0 kinds false (aAo r.guard)==2)&&r.sets.all (fun s=>aB0 kinds false (aAo s.value)==kinds.getD s.var.toNat 0)
structure FOK (vars:Nat) (r:Rule):Prop where
 pos:1<=r.sets.length
 le:r.sets.length<=6
 guard:aAy r.guard vars=true
 sets:∀ s∈r.sets,(0<=s.var/\s.var<=(vars:Int)-1)/\aAy s.value vars=true
 diff:(r.sets.map SetT.var).Nodup
theorem aE1 (vars:Nat) (r:Rule):aC0 vars r=true↔FOK vars r:=by
 unfold aC0;simp only [Bool.and_eq_true,decide_eq_true_eq,List.all_eq_true]
 constructor
 .rintro ⟨⟨⟨⟨h1,h2⟩,h3⟩,h4⟩,h5⟩
  exact ⟨h1,h2,h3,h4,h5⟩
 .rintro ⟨h1,h2,h3,h4,h5⟩
  exact ⟨⟨⟨⟨h1,h2⟩,h3⟩,h4⟩,h5⟩
theorem aWl {es:List Term} {kinds:List Int} (h6:kinds.length<=6) (hk:kinds.all aDq=true) (hv:aAy es kinds.length=true):(ofF es kinds false).1=aB0 kinds false (aAo es):=by
 unfold ofF;rw [if_neg (by omega),if_neg (by rw [hk];decide),if_neg (by rw [hv];decide)]
 split
 .rename_i h;rw [h]
 .rfl
theorem aRl (v:Value) (r:Rule) (K:Option Addr) (ck:Nat) (kinds:List Int) (w:World) (h:aPs w v r) (hK:aBk w K kinds.length kinds) (h6:kinds.length<=6) (hk:kinds.all aDq=true) (hf:FOK kinds.length r) (hL:aEl r=true) :
  Calls prog 143 #[v,.slice K kinds.length ck] w fun e w'=>e = .returned (.bool (aBx kinds r))/\Bel w w':=by
 obtain ⟨G,c,S,c2,rfl,hG,_,_,hS,_,_⟩:=h;have HG:=aA0 (fun w' (k:Bel w w')=>aAw.keep hG k);clear hG;have HS:=aA0 (fun w' (k:Bel w w')=>aK2.keep hS k);clear hS;have HK:=aA0 (fun w' (k:Bel w w')=>aBk.keep hK k);clear hK;obtain ⟨_,l2,l3,l4⟩:=aBq hL;have HL4:=aA0 l4;clear l4;have HOg:=aA0 (aWl h6 hk hf.guard);have HFS:=aA0 hf.sets;have HKK:=aA0 hk;have HB:=Bel.refl (w.alloc (.cells #[.string r.name,.slice G r.guard.length c,.slice S r.sets.length c2] 93));clear hL hf hk
 by_cases hg:aB0 kinds false (aAo r.guard)=2
 .have hgb:(aB0 kinds false (aAo r.guard) != 2)=false:=by simp [hg]
  have HGG:=aA0 hg;clear hg;go_enter func143,ntmps143
  go_wp2_with (go_at_call 162;refine (aWk _ _ r.guard _ _ kinds _ _ (HG.out _ (aA3 HB)) (HK.out _ (aA3 HB)) (by omega)).mono ?_;rintro e w' ⟨rfl,hb⟩;rw [HOg.out];replace HB:=HB.trans hb;clear hb;have q1:=aA7 HB 2 rfl;have q2:=aAu HB)
  clear q1 q2 hgb
  go_loopg [8,9,10,23] r.sets.length (fun m _x _y _u z wr=>∃ j:Nat,j<=r.sets.length/\m=r.sets.length-j/\z = .int .i64 j/\Hid ((r.sets.take j).all (fun s=>aB0 kinds false (aAo s.value)==kinds.getD s.var.toNat 0)=true)/\Bel (w.alloc (.cells #[.string r.name,.slice G r.guard.length c,.slice S r.sets.length c2] 93)) wr)
  case atStart=>exact ⟨0,by omega,rfl,rfl,rfl,HB⟩
  case round =>
   clear HB;obtain ⟨j,hj,rfl,rfl,HJ,HB⟩:=hrel
   by_cases hlt:j<r.sets.length
   .have hd0:decide (j<r.sets.length)=true:=by simpa using hlt
    obtain ⟨⟨f1,f2⟩,f3⟩:=HFS.out _ (List.getElem_mem hlt);have hlen:=HL4.out _ (List.getElem_mem hlt);have HOs:=aA0 (aWl h6 HKK.out f3);obtain ⟨a,ha⟩:=Int.eq_ofNat_of_zero_le f1;have hak:a<kinds.length:=by omega
    have HAK:Hid (kinds.getD r.sets[j].var.toNat 0=kinds[a]):=by show kinds.getD r.sets[j].var.toNat 0=_;rw [ha,Int.toNat_natCast,aA6 hak]
    obtain ⟨b,o,R,c',rfl,hb,s1,s2,hTv,_,_⟩:=(HS.out _ (aA3 HB)).at_ j hlt;rw [ha] at s1;have HTv:=aA0 (fun w' (k:Bel wr w')=>aAw.keep hTv k);clear hTv;have HAE:=aA0 ha;clear f1 f2 f3 ha;have HB2:=Bel.refl (wr.alloc (.cells #[.int .i64 (a:Int),.slice R r.sets[j].value.length c'] 95))
    go_wp2_with fail
    refine (aWk _ _ r.sets[j].value _ _ kinds _ _ (HTv.out _ (aA3 HB2)) (HK.out _ ((aA3 HB).trans (aA3 HB2))) (by omega)).mono ?_
    rintro e w' ⟨rfl,hb⟩;rw [HOs.out];replace HB2:=HB2.trans hb;clear hb;have q1:=aA7 HB2 0 rfl;have q2:=aAu HB2;obtain ⟨bk,ok,rfl,hbk,ck1⟩:=(HK.out _ ((aA3 HB).trans (aA3 HB2))).at_ a hak
    by_cases he:aB0 kinds false (aAo r.sets[j].value)=kinds[a]
    .have heb:(aB0 kinds false (aAo r.sets[j].value) != kinds[a])=false:=by simpa using he
     have HN:=aA0 (aA9 hlt HJ.out (by simp only [HAK.out,he,BEq.rfl]))
     clear he
     go_wp2_with fail
     go_roundg (r.sets.length-(j+1))
     case rel=>exact ⟨j+1,by omega,rfl,by go_num,HN,HB.trans (aA3 HB2)⟩
     case measure=>omega
    .have heb:(aB0 kinds false (aAo r.sets[j].value) != kinds[a])=true:=by simpa using he
     have HF:Hid (aBx kinds r=false):=by
      show aBx kinds r=false
      unfold aBx;rw [aAj hlt (by rw [HAK.out];simpa using he)];simp
     clear he
     go_wp2_with fail
     go_ret;exact ⟨aA2 HF.out.symm,(aA3 HB).trans (aA3 HB2)⟩
   .have hd0:decide (j<r.sets.length)=false:=by simpa using hlt
    have HF:Hid (aBx kinds r=true):=by
     show aBx kinds r=true
     unfold aBx;rw [aAk (by omega) HJ.out,HGG.out];rfl
    go_wp2_with fail
    go_ret;exact ⟨aA2 HF.out.symm,aA3 HB⟩
 .have hgb:(aB0 kinds false (aAo r.guard) != 2)=true:=by simp [hg]
  have HF:Hid (aBx kinds r=false):=by
   show aBx kinds r=false
   unfold aBx;rw [show (aB0 kinds false (aAo r.guard)==2)=false by simpa using hg];rfl
  clear hg;go_enter func143,ntmps143
  go_wp2_with (go_at_call 162;refine (aWk _ _ r.guard _ _ kinds _ _ (HG.out _ (aA3 HB)) (HK.out _ (aA3 HB)) (by omega)).mono ?_;rintro e w' ⟨rfl,hb⟩;rw [HOg.out];replace HB:=HB.trans hb;clear hb)
  go_ret;exact ⟨aA2 HF.out.symm,aA3 HB⟩
theorem aR7 (v:Value) (r:Rule) (K:Option Addr) (ck:Nat) (kinds:List Int) (w:World) (h:aPs w v r) (hK:aBk w K kinds.length kinds) (hf:FOK kinds.length r) (hL:aEl r=true) :
  Calls prog 149 #[v,.slice K kinds.length ck] w fun e w'=>e = .returned (.bool (aBx kinds r))/\Bel w w':=by
 obtain ⟨G,c,S,c2,rfl,hG,_,_,hS,_,_⟩:=h;have HG:=aA0 (fun w' (k:Bel w w')=>aAw.keep hG k);clear hG;have HS:=aA0 (fun w' (k:Bel w w')=>aK2.keep hS k);clear hS;have HK:=aA0 (fun w' (k:Bel w w')=>aBk.keep hK k);clear hK;obtain ⟨_,l2,l3,l4⟩:=aBq hL;have HL4:=aA0 l4;clear l4;obtain ⟨g1,g2,_,g4,_,_⟩:=aEg hf.guard;have HGA:=aA0 (At.whole g1 g2);have HG4:=aA0 g4;have HFS:=aA0 hf.sets;have HB:=Bel.refl (w.alloc (.cells #[.string r.name,.slice G r.guard.length c,.slice S r.sets.length c2] 93));clear hL hf g1 g2 g4
 by_cases hg:aB0 kinds false (aAo r.guard)=2
 .have hgb:(aB0 kinds false (aAo r.guard) != 2)=false:=by simp [hg]
  have HGG:=aA0 hg;clear hg;go_enter func149,ntmps149
  go_wp2_with (go_at_call 170;refine (aJ2 kinds (aAo r.guard) _ _ _ r.guard _ _ 0 _ HGA.out (HG.out _ (aA3 HB)) (HK.out _ (aA3 HB)) HG4.out (by omega)).mono ?_;rintro e w' ⟨rfl,hb⟩;replace HB:=HB.trans hb;clear hb;have q1:=aA7 HB 2 rfl;have q2:=aAu HB)
  clear q1 q2 hgb
  go_loopg [5] r.sets.length (fun m z wr=>∃ j:Nat,j<=r.sets.length/\m=r.sets.length-j/\z = .int .i64 j/\Hid ((r.sets.take j).all (fun s=>aB0 kinds false (aAo s.value)==kinds.getD s.var.toNat 0)=true)/\Bel (w.alloc (.cells #[.string r.name,.slice G r.guard.length c,.slice S r.sets.length c2] 93)) wr)
  case atStart=>exact ⟨0,by omega,rfl,rfl,rfl,HB⟩
  case round =>
   clear HB;obtain ⟨j,hj,rfl,rfl,HJ,HB⟩:=hrel;have q1:=aA7 HB 2 rfl;have q2:=aAu HB
   by_cases hlt:j<r.sets.length
   .have hd0:decide (j<r.sets.length)=true:=by simpa using hlt
    obtain ⟨⟨f1,f2⟩,f3⟩:=HFS.out _ (List.getElem_mem hlt);have hlen:=HL4.out _ (List.getElem_mem hlt);obtain ⟨t1,t2,_,t4,_,_⟩:=aEg f3;have HTA:=aA0 (At.whole t1 t2);have HT4:=aA0 t4;obtain ⟨a,ha⟩:=Int.eq_ofNat_of_zero_le f1;have hak:a<kinds.length:=by omega
    have HAK:Hid (kinds.getD r.sets[j].var.toNat 0=kinds[a]):=by show kinds.getD r.sets[j].var.toNat 0=_;rw [ha,Int.toNat_natCast,aA6 hak]
    obtain ⟨b,o,R,c',rfl,hb,s1,s2,hTv,_,_⟩:=(HS.out _ (aA3 HB)).at_ j hlt;rw [ha] at s1;obtain ⟨bk,ok,rfl,hbk,ck1⟩:=(HK.out _ (aA3 HB)).at_ a hak;have HTv:=aA0 (fun w' (k:Bel wr w')=>aAw.keep hTv k);clear hTv;have hcell:=aA0 (fun w' (k:Bel wr w')=>And.intro ((k.cell q2).trans q1) (And.intro ((k.cell hb).trans s1) (And.intro ((k.cell hbk).trans ck1) (And.intro ((k.cell hb).trans s2) (Nat.lt_of_lt_of_le q2 k.size)))));clear f1 f2 f3 ha t1 t2 t4;have HB2:=Bel.refl wr
    go_wp2_with fail
    replace HB2:=HB2.drew
    go_region_held3 (fun w'=>w'.cell? ⟨w.heap.size,2,none⟩=some (.slice (some ⟨b,o,none⟩) r.sets.length c2)/\w'.cell? ⟨b,o+j*2,none⟩=some (.int .i64 (a:Int))/\w'.cell? ⟨bk,ok+a,none⟩=some (.int .i64 kinds[a])/\w'.cell? ⟨b,o+j*2+1,none⟩=some (.slice R r.sets[j].value.length c')/\w.heap.size<w'.heap.size) (exact hcell.out _ HB2) (first | (go_simp;go_at_call 170;refine (aJ2 kinds (aAo r.sets[j].value) _ _ _ r.sets[j].value _ _ 0 _ HTA.out (HTv.out _ HB2) (HK.out _ ((aA3 HB).trans HB2)) HT4.out (by omega)).mono ?_;rintro e w' ⟨rfl,hbb⟩;replace HB2:=HB2.trans hbb;clear hbb))
    go_wp2_with fail
    .have he:(aB0 kinds false (aAo r.sets[j].value) != kinds[a])=true:=by assumption
     have HF:Hid (aBx kinds r=false):=by
      show aBx kinds r=false
      unfold aBx;rw [aAj hlt (by rw [HAK.out];simpa using he)];simp
     go_ret;exact ⟨aA2 HF.out.symm,(aA3 HB).trans HB2⟩
    .have he:(aB0 kinds false (aAo r.sets[j].value) != kinds[a])=false:=by assumption
     have HN:=aA0 (aA9 hlt HJ.out (by simp only [HAK.out];simpa using he))
     go_roundg (r.sets.length-(j+1))
     case rel=>exact ⟨j+1,by omega,rfl,by go_num,HN,HB.trans HB2⟩
     case measure=>omega
   .have hd0:decide (j<r.sets.length)=false:=by simpa using hlt
    have HF:Hid (aBx kinds r=true):=by
     show aBx kinds r=true
     unfold aBx;rw [aAk (by omega) HJ.out,HGG.out];rfl
    go_wp2_with fail
    go_ret;exact ⟨aA2 HF.out.symm,aA3 HB⟩
 .have hgb:(aB0 kinds false (aAo r.guard) != 2)=true:=by simp [hg]
  have HF:Hid (aBx kinds r=false):=by
   show aBx kinds r=false
   unfold aBx;rw [show (aB0 kinds false (aAo r.guard)==2)=false by simpa using hg];rfl
  clear hg;go_enter func149,ntmps149
  go_wp2_with (go_at_call 170;refine (aJ2 kinds (aAo r.guard) _ _ _ r.guard _ _ 0 _ HGA.out (HG.out _ (aA3 HB)) (HK.out _ (aA3 HB)) HG4.out (by omega)).mono ?_;rintro e w' ⟨rfl,hb⟩;replace HB:=HB.trans hb;clear hb)
  go_ret;exact ⟨aA2 HF.out.symm,aA3 HB⟩
theorem aBl {vars:Nat} {r:Rule} (h:¬ FOK vars r):aC0 vars r=false:=by
 rw [Bool.eq_false_iff];intro hb;exact h ((aE1 vars r).1 hb)
theorem aC2 {α:Type} {l:List α} {k:Nat} (h:k<l.length) (hn:(l.take k).Nodup) (hne:∀ j (hj:j<k),l[j]≠l[k]):(l.take (k+1)).Nodup:=by
 rw [List.take_succ_eq_append_getElem h,List.nodup_append];refine ⟨hn,by simp,?_⟩
 intro a ha b hb
 simp at hb
 subst hb;rw [List.mem_take_iff_getElem] at ha;obtain ⟨j,hj,rfl⟩:=ha;exact hne j (by omega)
theorem aEv {α:Type} {l:List α} {j k:Nat} (hj:j<k) (hk:k<l.length) (he:l[j]=l[k]):¬ l.Nodup:=by
 intro hn
 have:=(List.nodup_iff_pairwise_ne.1 hn);rw [List.pairwise_iff_getElem] at this;exact this j k (by omega) hk hj he
theorem aJu (v:Value) (r:Rule) (vars:Nat) (w:World) (h:aPs w v r) (hvars:vars<=1000) (hL:aEl r=true) :
  Calls prog 148 #[v,.int .i64 vars] w fun e w'=>e = .returned (.bool (aC0 vars r))/\Bel w w':=by
 obtain ⟨G,c,S,c2,rfl,hG,_,_,hS,_,_⟩:=h;have HG:=aA0 (fun w' (k:Bel w w')=>aAw.keep hG k);clear hG;have HS:=aA0 (fun w' (k:Bel w w')=>aK2.keep hS k);clear hS;obtain ⟨_,l2,l3,l4⟩:=aBq hL;have HL4:=aA0 l4;clear l4 hL;have HB:=Bel.refl (w.alloc (.cells #[.string r.name,.slice G r.guard.length c,.slice S r.sets.length c2] 93))
 by_cases hn:1<=r.sets.length/\r.sets.length<=6
 .have hin:inB (r.sets.length:Int) 1 6=true:=aDf (by omega) (by omega)
  cases hvg:aAy r.guard vars with
  | false =>
   have HF:Hid (aC0 vars r=false):=aBl fun h=>by rw [h.guard] at hvg;cases hvg
   go_enter func148,ntmps148
   go_wp2_with (first
    | (go_at_call 145;refine (aDp _ _ _ _).mono ?_;rintro e w' ⟨rfl,rfl⟩)
    | (go_at_call 169;refine (aFp _ _ _ r.guard _ _ (HG.out _ (aA3 HB)) (by omega)).mono ?_;rintro e w' ⟨rfl,hb⟩;rw [hvg];replace HB:=HB.trans hb;clear hb))
   go_ret;exact ⟨aA2 HF.out.symm,aA3 HB⟩
  | true =>
   have HVG:=aA0 hvg;clear hvg;go_enter func148,ntmps148
   go_wp2_with (first
    | (go_at_call 145;refine (aDp _ _ _ _).mono ?_;rintro e w' ⟨rfl,rfl⟩)
    | (go_at_call 169;refine (aFp _ _ _ r.guard _ _ (HG.out _ (aA3 HB)) (by omega)).mono ?_;rintro e w' ⟨rfl,hb⟩;rw [HVG.out];replace HB:=HB.trans hb;clear hb))
   clear hin
   go_loopg [5,6] r.sets.length (fun m z _y wr=>∃ j:Nat,j<=r.sets.length/\m=r.sets.length-j/\z = .int .i64 j/\Hid ((r.sets.take j).all (fun s=>decide (0<=s.var/\s.var<=(vars:Int)-1)&&aAy s.value vars)=true/\((r.sets.map SetT.var).take j).Nodup)/\Bel (w.alloc (.cells #[.string r.name,.slice G r.guard.length c,.slice S r.sets.length c2] 93)) wr)
   case atStart=>exact ⟨0,by omega,rfl,rfl,⟨rfl,by simp⟩,HB⟩
   case round =>
    clear HB;obtain ⟨i,hi,rfl,rfl,HJ,HB⟩:=hrel;have q1:=aA7 HB 2 rfl;have q2:=aAu HB
    by_cases hlt:i<r.sets.length
    .have hd0:decide (i<r.sets.length)=true:=by simpa using hlt
     obtain ⟨b,o,R,c',rfl,hb,s1,s2,hTv,_,_⟩:=(HS.out _ (aA3 HB)).at_ i hlt;have HTv:=aA0 hTv;clear hTv;have hlen:=HL4.out _ (List.getElem_mem hlt)
     by_cases hr:0<=r.sets[i].var/\r.sets[i].var<=(vars:Int)-1
     .have hin:inB r.sets[i].var 0 ((vars:Int)-1)=true:=aDf hr.1 hr.2
      cases hvs:aAy r.sets[i].value vars with
      | false =>
       have HF:Hid (aC0 vars r=false):=aBl fun h=>by have:=(h.sets _ (List.getElem_mem hlt)).2;rw [hvs] at this;cases this
       go_wp2_with (first
        | (go_at_call 145;refine (aDp _ _ _ _).mono ?_;rintro e w' ⟨rfl,rfl⟩)
        | (go_at_call 169;refine (aFp _ _ _ r.sets[i].value _ _ HTv.out (by omega)).mono ?_;rintro e w' ⟨rfl,hbb⟩;rw [hvs];replace HB:=HB.trans hbb;clear hbb))
       go_ret;exact ⟨aA2 HF.out.symm,aA3 HB⟩
      | true =>
       have HOK:=aA0 (show (decide (0<=r.sets[i].var/\r.sets[i].var<=(vars:Int)-1)&&aAy r.sets[i].value vars)=true by rw [hvs,decide_eq_true hr];rfl)
       have HVS:=aA0 hvs;clear hvs hr
       go_wp2_with (first
        | (go_at_call 145;refine (aDp _ _ _ _).mono ?_;rintro e w' ⟨rfl,rfl⟩)
        | (go_at_call 169;refine (aFp _ _ _ r.sets[i].value _ _ HTv.out (by omega)).mono ?_;rintro e w' ⟨rfl,hbb⟩;rw [HVS.out];replace HB:=HB.trans hbb;clear hbb hb s1 s2 q1 q2;clear HTv))
       clear hin hd0
       go_loopg [6] i (fun m x ws=>∃ j:Nat,j<=i/\m=i-j/\x = .int .i64 j/\Hid (∀ q,(hq:q<j)->(hq':q<r.sets.length)->r.sets[q].var≠r.sets[i].var)/\Bel (w.alloc (.cells #[.string r.name,.slice G r.guard.length c,.slice (some ⟨b,o,none⟩) r.sets.length c2] 93)) ws)
       case atStart=>exact ⟨0,by omega,rfl,rfl,fun q hq=>absurd hq (by omega),HB⟩
       case round =>
        clear HB;obtain ⟨j,hj,rfl,rfl,HQ,HB⟩:=hrel;have q1:=aA7 HB 2 rfl;have q2:=aAu HB
        by_cases hlt2:j<i
        .have hji:j<r.sets.length:=by omega
         obtain ⟨b',o',R',c'',e',hb',s1',_,_,_,_⟩:=(HS.out _ (aA3 HB)).at_ j hji;obtain ⟨rfl,rfl⟩:b=b'/\o=o':=by simpa using e'
         obtain ⟨b',o',R',c'',e',_,s1,_,_,_,_⟩:=(HS.out _ (aA3 HB)).at_ i hlt;obtain ⟨rfl,rfl⟩:b=b'/\o=o':=by simpa using e'
         clear e';have hd:decide (j<i)=true:=by simpa using hlt2
         go_wp2
         go_quiet (fail)
         go_wp2
         .have he:(r.sets[j].var==r.sets[i].var)=true:=by assumption
          go_ret;refine ⟨aA2 ?_,(aA3 HB).drewN _⟩
          symm
          refine aBl fun hf=>?_
          exact aEv hlt2 (by simpa using hlt) (by simpa using he) hf.diff
         .have he:(r.sets[j].var==r.sets[i].var)=false:=by assumption
          go_roundg (i-(j+1))
          case rel =>
           refine ⟨j+1,by omega,rfl,by go_num,?_,HB.drewN _⟩
           intro q hq hq'
           rcases Nat.lt_or_ge q j with h | h
           .exact HQ.out q h hq'
           .obtain rfl:q=j:=by omega
            simpa using he
          case measure=>omega
        .have hd:decide (j<i)=false:=by simpa using hlt2
         go_wp2
         go_roundg (r.sets.length-(i+1))
         case rel =>
          refine ⟨i+1,by omega,rfl,by go_num,⟨aA9 hlt HJ.out.1 HOK.out,aC2 (by simpa using hlt) HJ.out.2 ?_⟩,HB⟩
          intro q hq
          have:=HQ.out q (by omega) (by omega)
          simpa using this
         case measure=>omega
     .have hin:inB r.sets[i].var 0 ((vars:Int)-1)=false:=by
       rw [aD0];omega
      have HF:Hid (aC0 vars r=false):=aBl fun h=>hr (h.sets _ (List.getElem_mem hlt)).1;clear hr
      go_wp2_with (go_at_call 145;refine (aDp _ _ _ _).mono ?_;rintro e w' ⟨rfl,rfl⟩)
      go_ret;exact ⟨aA2 HF.out.symm,aA3 HB⟩
    .have hd0:decide (i<r.sets.length)=false:=by simpa using hlt
     go_wp2_with fail
     go_ret;refine ⟨aA2 ?_,aA3 HB⟩
     symm
     rw [aE1];obtain ⟨a1,a2⟩:=HJ.out;rw [List.take_of_length_le (by omega)] at a1
     rw [List.take_of_length_le (by simp;omega)] at a2
     refine ⟨hn.1,hn.2,HVG.out,fun s hs=>?_,a2⟩
     have:=List.all_eq_true.1 a1 s hs;rw [Bool.and_eq_true] at this;exact ⟨of_decide_eq_true this.1,this.2⟩
 .have hin:inB (r.sets.length:Int) 1 6=false:=by rw [aD0];omega
  have HF:Hid (aC0 vars r=false):=aBl fun h=>hn ⟨h.pos,h.le⟩;clear hn;go_enter func148,ntmps148
  go_wp2_with (go_at_call 145;refine (aDp _ _ _ _).mono ?_;rintro e w' ⟨rfl,rfl⟩)
  go_ret;exact ⟨aA2 HF.out.symm,aA3 HB⟩
def aFl (l:List ByteArray):Bool:=l.all aE3&&decide l.Nodup
def aCk (p:Prg):Bool:=aE3 p.name&&aFl (p.vars.map Var.name)&&aFl (p.rules.map Rule.name)
theorem aX7 {a b:ByteArray} (h:(a.toList==b.toList)=true):a=b:=by
 have h1:a.toList=b.toList:=by simpa using h
 rw [Lib.toList_data,Lib.toList_data] at h1;cases a;cases b
 simp only [ByteArray.mk.injEq]
 exact Array.toList_inj.1 h1
theorem aZ9 {a b:ByteArray} (h:(a.toList==b.toList)=false):a≠b:=by
 rintro rfl;simp at h
theorem aC1 (l:List ByteArray):aFl l=true↔(∀ s∈l,aE3 s=true)/\l.Nodup:=by
 unfold aFl;simp only [Bool.and_eq_true,decide_eq_true_eq,List.all_eq_true]
theorem aEo {p:Prg} (h:¬ aFl (p.vars.map Var.name)=true):aCk p=false:=by
 unfold aCk;rw [Bool.eq_false_iff.2 h];simp
theorem aEp {p:Prg} (h:¬ aFl (p.rules.map Rule.name)=true):aCk p=false:=by
 unfold aCk;rw [Bool.eq_false_iff.2 h];simp
theorem aL3 (v:Value) (p:Prg) (w:World) (h:aEk w v p) (hL:aAs p=true) :
  Calls prog 146 #[v] w fun e w'=>e = .returned (.bool (aCk p))/\Bel w w':=by
 obtain ⟨A,k,A2,k2,rfl,hV,_,_,hR,_,_⟩:=h;have HV:=aA0 (fun w' (k:Bel w w')=>aH8.keep hV k);clear hV;have HR:=aA0 (fun w' (k:Bel w w')=>aEz.keep hR k);clear hR;obtain ⟨p1,p2,p3,p4,p5⟩:=aB3 hL;have HP4:=aA0 p4;have HP5:=aA0 (fun r hr=>(aBq (p5 r hr)).1);clear p4 p5 hL;have HB:=Bel.refl (w.alloc (.cells #[.string p.name,.slice A p.vars.length k,.slice A2 p.rules.length k2] 25));cases hnm:aE3 p.name with
 | false =>
  have HF:Hid (aCk p=false):=by show aCk p=false;unfold aCk;rw [hnm];rfl
  go_enter func146,ntmps146
  go_wp2_with (go_at_call 167;refine (aE5 _ _ (by omega)).mono ?_;rintro e w' ⟨rfl,rfl⟩)
  go_ret;exact ⟨aA2 HF.out.symm,aA3 HB⟩
 | true =>
  have HNM:=aA0 hnm;go_enter func146,ntmps146
  go_wp2_with (go_at_call 167;refine (aE5 _ _ (by omega)).mono ?_;rintro e w' ⟨rfl,rfl⟩)
  clear hnm
  go_loopg [3,4] p.vars.length (fun m z _y wr=>∃ j:Nat,j<=p.vars.length/\m=p.vars.length-j/\z = .int .i64 j/\Hid ((∀ q,q<j->(hq:q<p.vars.length)->aE3 p.vars[q].name=true)/\((p.vars.map Var.name).take j).Nodup)/\Bel (w.alloc (.cells #[.string p.name,.slice A p.vars.length k,.slice A2 p.rules.length k2] 25)) wr)
  case atStart=>exact ⟨0,by omega,rfl,rfl,⟨fun q hq=>absurd hq (by omega),by simp⟩,HB⟩
  case round =>
   clear HB;obtain ⟨i,hi,rfl,rfl,HJ,HB⟩:=hrel;have q1:=aA7 HB 1 rfl;have q2:=aAu HB
   by_cases hlt:i<p.vars.length
   .have hd0:decide (i<p.vars.length)=true:=by simpa using hlt
    have hnl:=HP4.out _ (List.getElem_mem hlt);go_wp2;clear hd0 q1 q2
    go_loopg [4] i (fun m x ws=>∃ j:Nat,j<=i/\m=i-j/\x = .int .i64 j/\Hid (∀ q,(hq:q<j)->(hq':q<p.vars.length)->p.vars[q].name≠p.vars[i].name)/\Bel (w.alloc (.cells #[.string p.name,.slice A p.vars.length k,.slice A2 p.rules.length k2] 25)) ws)
    case atStart=>exact ⟨0,by omega,rfl,rfl,fun q hq=>absurd hq (by omega),HB⟩
    case round =>
     clear HB;obtain ⟨j,hj,rfl,rfl,HQ,HB⟩:=hrel;have q1:=aA7 HB 1 rfl;have q2:=aAu HB;obtain ⟨b,o,rfl,hb,hc,_⟩:=(HV.out _ (aA3 HB)).at_ i hlt
     by_cases hlt2:j<i
     .have hji:j<p.vars.length:=by omega
      obtain ⟨b',o',e',hb',hc',_⟩:=(HV.out _ (aA3 HB)).at_ j hji;obtain ⟨rfl,rfl⟩:b=b'/\o=o':=by simpa using e'
      clear e';have hd:decide (j<i)=true:=by simpa using hlt2
      go_wp2
      go_quiet (fail)
      go_wp2
      .have he:(p.vars[j].name.toList==p.vars[i].name.toList)=true:=by assumption
       go_ret;refine ⟨aA2 ?_,(aA3 HB).drewN _⟩
       symm
       refine aEo fun hf=>?_
       exact aEv hlt2 (by simpa using hlt) (by simpa using aX7 he) ((aC1 _).1 hf).2
      .have he:(p.vars[j].name.toList==p.vars[i].name.toList)=false:=by assumption
       go_roundg (i-(j+1))
       case rel =>
        refine ⟨j+1,by omega,rfl,by go_num,?_,HB.drewN _⟩
        intro q hq hq'
        rcases Nat.lt_or_ge q j with h | h
        .exact HQ.out q h hq'
        .obtain rfl:q=j:=by omega
         exact aZ9 he
       case measure=>omega
     .have hd:decide (j<i)=false:=by simpa using hlt2
      cases hnn:aE3 p.vars[i].name with
      | false =>
       have HF:Hid (aCk p=false):=aEo fun hf=>by
        have:=((aC1 _).1 hf).1 p.vars[i].name (List.mem_map_of_mem (List.getElem_mem hlt));rw [hnn] at this;cases this
       go_wp2_with (go_at_call 167;refine (aE5 _ _ (by omega)).mono ?_;rintro e w' ⟨rfl,rfl⟩)
       go_ret;exact ⟨aA2 HF.out.symm,aA3 HB⟩
      | true =>
       have HNN:=aA0 hnn
       go_wp2_with (go_at_call 167;refine (aE5 _ _ (by omega)).mono ?_;rintro e w' ⟨rfl,rfl⟩)
       go_roundg (p.vars.length-(i+1))
       case rel =>
        refine ⟨i+1,by omega,rfl,by go_num,⟨?_,aC2 (by simpa using hlt) HJ.out.2 ?_⟩,HB⟩
        .intro q hq hq'
         rcases Nat.lt_or_ge q i with h | h
         .exact HJ.out.1 q h hq'
         .obtain rfl:q=i:=by omega
          exact HNN.out
        .intro q hq
         have:=HQ.out q (by omega) (by omega)
         simpa using this
       case measure=>omega
   .have hd0:decide (i<p.vars.length)=false:=by simpa using hlt
    have HE:Hid (aFl (p.vars.map Var.name)=true):=by
     show aFl (p.vars.map Var.name)=true
     rw [aC1];obtain ⟨a1,a2⟩:=HJ.out;rw [List.take_of_length_le (by simp;omega)] at a2
     refine ⟨fun s hs=>?_,a2⟩
     obtain ⟨x,hx,rfl⟩:=List.mem_map.1 hs;obtain ⟨q,hq,rfl⟩:=List.getElem_of_mem hx;exact a1 q (by omega) hq
    have HE1:=HE;clear HE HJ
    go_wp2_with fail
    clear hd0 q1 q2 hi hlt
    go_loopg [5,6] p.rules.length (fun m z _y wr=>∃ j:Nat,j<=p.rules.length/\m=p.rules.length-j/\z = .int .i64 j/\Hid ((∀ q,q<j->(hq:q<p.rules.length)->aE3 p.rules[q].name=true)/\((p.rules.map Rule.name).take j).Nodup)/\Bel (w.alloc (.cells #[.string p.name,.slice A p.vars.length k,.slice A2 p.rules.length k2] 25)) wr)
    case atStart=>exact ⟨0,by omega,rfl,rfl,⟨fun q hq=>absurd hq (by omega),by simp⟩,HB⟩
    case round =>
     clear HB;obtain ⟨i,hi,rfl,rfl,HJ,HB⟩:=hrel;have q1:=aA7 HB 2 rfl;have q2:=aAu HB
     by_cases hlt:i<p.rules.length
     .have hd0:decide (i<p.rules.length)=true:=by simpa using hlt
      have hnl:=HP5.out _ (List.getElem_mem hlt);go_wp2;clear hd0 q1 q2
      go_loopg [6] i (fun m x ws=>∃ j:Nat,j<=i/\m=i-j/\x = .int .i64 j/\Hid (∀ q,(hq:q<j)->(hq':q<p.rules.length)->p.rules[q].name≠p.rules[i].name)/\Bel (w.alloc (.cells #[.string p.name,.slice A p.vars.length k,.slice A2 p.rules.length k2] 25)) ws)
      case atStart=>exact ⟨0,by omega,rfl,rfl,fun q hq=>absurd hq (by omega),HB⟩
      case round =>
       clear HB;obtain ⟨j,hj,rfl,rfl,HQ,HB⟩:=hrel;have q1:=aA7 HB 2 rfl;have q2:=aAu HB;obtain ⟨b,o,G1,c1,S1,c2,rfl,hb,hc,_⟩:=(HR.out _ (aA3 HB)).at_ i hlt
       by_cases hlt2:j<i
       .have hji:j<p.rules.length:=by omega
        obtain ⟨b',o',G2,c1p,S2,c2p,e',hb',hc',_⟩:=(HR.out _ (aA3 HB)).at_ j hji;obtain ⟨rfl,rfl⟩:b=b'/\o=o':=by simpa using e'
        clear e';have hd:decide (j<i)=true:=by simpa using hlt2
        go_wp2
        go_quiet (fail)
        go_wp2
        .have he:(p.rules[j].name.toList==p.rules[i].name.toList)=true:=by assumption
         go_ret;refine ⟨aA2 ?_,(aA3 HB).drewN _⟩
         symm
         refine aEp fun hf=>?_
         exact aEv hlt2 (by simpa using hlt) (by simpa using aX7 he) ((aC1 _).1 hf).2
        .have he:(p.rules[j].name.toList==p.rules[i].name.toList)=false:=by assumption
         go_roundg (i-(j+1))
         case rel =>
          refine ⟨j+1,by omega,rfl,by go_num,?_,HB.drewN _⟩
          intro q hq hq'
          rcases Nat.lt_or_ge q j with h | h
          .exact HQ.out q h hq'
          .obtain rfl:q=j:=by omega
           exact aZ9 he
         case measure=>omega
       .have hd:decide (j<i)=false:=by simpa using hlt2
        cases hnn:aE3 p.rules[i].name with
        | false =>
         have HF:Hid (aCk p=false):=aEp fun hf=>by
          have:=((aC1 _).1 hf).1 p.rules[i].name (List.mem_map_of_mem (List.getElem_mem hlt));rw [hnn] at this;cases this
         go_wp2_with (go_at_call 167;refine (aE5 _ _ (by omega)).mono ?_;rintro e w' ⟨rfl,rfl⟩)
         go_ret;exact ⟨aA2 HF.out.symm,aA3 HB⟩
        | true =>
         have HNN:=aA0 hnn
         go_wp2_with (go_at_call 167;refine (aE5 _ _ (by omega)).mono ?_;rintro e w' ⟨rfl,rfl⟩)
         go_roundg (p.rules.length-(i+1))
         case rel =>
          refine ⟨i+1,by omega,rfl,by go_num,⟨?_,aC2 (by simpa using hlt) HJ.out.2 ?_⟩,HB⟩
          .intro q hq hq'
           rcases Nat.lt_or_ge q i with h | h
           .exact HJ.out.1 q h hq'
           .obtain rfl:q=i:=by omega
            exact HNN.out
          .intro q hq
           have:=HQ.out q (by omega) (by omega)
           simpa using this
         case measure=>omega
     .have hd0:decide (i<p.rules.length)=false:=by simpa using hlt
      have HE:Hid (aFl (p.rules.map Rule.name)=true):=by
       show aFl (p.rules.map Rule.name)=true
       rw [aC1];obtain ⟨a1,a2⟩:=HJ.out;rw [List.take_of_length_le (by simp;omega)] at a2
       refine ⟨fun s hs=>?_,a2⟩
       obtain ⟨x,hx,rfl⟩:=List.mem_map.1 hs;obtain ⟨q,hq,rfl⟩:=List.getElem_of_mem hx;exact a1 q (by omega) hq
      go_wp2_with fail
      go_ret;refine ⟨aA2 ?_,aA3 HB⟩
      symm
      unfold aCk;rw [HNM.out,HE1.out,HE.out];rfl
end Go.Proofs.YtdcjnhoabbdanaaGreatDoor

