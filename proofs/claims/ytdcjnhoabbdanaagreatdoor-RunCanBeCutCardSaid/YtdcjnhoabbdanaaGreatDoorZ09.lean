/- Merged. -/
import Derived.Test.YtdcjnhoabbdanaaGreatDoorZ07
set_option linter.unusedSimpArgs false
set_option linter.unnecessarySimpa false
set_option linter.unusedVariables false
set_option maxRecDepth 100000
set_option maxHeartbeats 2000000
open Go.Proofs.Tryz

namespace Go.Proofs.YtdcjnhoabbdanaaGreatDoor
open Go.RowKit
theorem aCt {v lo hi:Int}:inB v lo hi=false↔v<lo∨hi<v:=by unfold inB;simp;omega
theorem aW9 (A:Option Addr) (c:Nat) (es:List Term) (K:Option Addr) (ck:Nat) (kinds:List Int) (bound:Bool) (w:World) (hT:aAx w A es.length es) (hK:aBc w K kinds.length kinds) (hlen:es.length<=1000) :
  Calls prog 162 #[.slice A es.length c,.slice K kinds.length ck,.bool bound] w fun e w'=>e = .returned (.tuple #[.int .i64 (ofF es kinds bound).1,.int .i64 (ofF es kinds bound).2])/\Bel w w':=by
 have HT:=aA0 (fun w' (k:Bel w w')=>aAx.keep hT k);clear hT;have HK:=aA0 (fun w' (k:Bel w w')=>aBc.keep hK k);clear hK
 by_cases h6:6<kinds.length
 .have HF:Hid (ofF es kinds bound=(0,7)):=by show ofF es kinds bound=_;unfold ofF;rw [if_pos h6]
  have hd:decide (6<kinds.length)=true:=by simpa using h6
  go_enter func162,ntmps162
  go_wp2_with fail
  go_ret2
  rw [HF.out];exact ⟨rfl,Bel.refl _⟩
 .have hd:decide (6<kinds.length)=false:=by simpa using h6
  have h6':kinds.length<=6:=by omega
  go_enter func162,ntmps162
  go_wp2_with fail
  clear hd
  go_loopg [9,18] kinds.length (fun m _x z wr=>∃ j:Nat,j<=kinds.length/\m=kinds.length-j/\Hid ((kinds.take j).all aDo=true)/\z = .int .i64 j/\w=wr)
  case atStart=>exact ⟨0,by omega,rfl,rfl,rfl,rfl⟩
  case round =>
   obtain ⟨j,hj,rfl,HJ,rfl,rfl⟩:=hrel
   by_cases hlt:j<kinds.length
   .have hd0:decide (j<kinds.length)=true:=by simpa using hlt
    obtain ⟨b,o,rfl,hb,hc⟩:=(HK.out _ (Bel.refl _)).at_ j hlt;cases hk:aDo kinds[j] with
    | false =>
     have HF:Hid (ofF es kinds bound=(0,7)):=by show ofF es kinds bound=_;unfold ofF;rw [if_neg h6,if_pos (aAh hlt hk)]
     go_wp2_with (go_at_call 159;refine (aEb _ _).mono ?_;rintro e w' ⟨rfl,rfl⟩)
     go_ret2
     rw [HF.out];exact ⟨rfl,Bel.refl _⟩
    | true =>
     have HN:=aA0 (aA9 hlt HJ.out hk)
     go_wp2_with (go_at_call 159;refine (aEb _ _).mono ?_;rintro e w' ⟨rfl,rfl⟩)
     go_roundg (kinds.length-(j+1))
     case rel=>exact ⟨j+1,by omega,rfl,HN,by go_num,rfl⟩
     case measure=>omega
   .have hd0:decide (j<kinds.length)=false:=by simpa using hlt
    have HA:=aA0 (aAi (by omega) HJ.out)
    clear HJ hlt;have HB:=Bel.refl w;cases hv:aAs es kinds.length with
    | false =>
     have HF:Hid (ofF es kinds bound=(0,7)):=by show ofF es kinds bound=_;unfold ofF;rw [if_neg h6,if_neg (by rw [HA.out];decide),if_pos hv]
     go_wp2_with (go_at_call 161;refine (aFy _ _ _ es _ _ (HT.out _ HB) (by omega)).mono ?_;rintro e w' ⟨rfl,hbb⟩;replace HB:=HB.trans hbb;clear hbb;rw [hv])
     go_ret2
     rw [HF.out];exact ⟨rfl,HB⟩
    | true =>
     obtain ⟨v1,v2,v3,v4,_,_⟩:=aEe hv;have HV4:=aA0 v4;have HAT:=aA0 (At.whole v1 v2);have HVV:=aA0 hv
     have HF:Hid (ofF es kinds bound=if aAv kinds bound (aAp es)=0 then (0,6) else (aAv kinds bound (aAp es),0)):=by
      show ofF es kinds bound=_
      unfold ofF;rw [if_neg h6,if_neg (by rw [HA.out];decide),if_neg (by rw [hv];decide)]
     clear v1 v2 v3 v4 hv h6
     go_wp2_with (first
      | (go_at_call 161;refine (aFy _ _ _ es _ _ (HT.out _ HB) (by omega)).mono ?_;rintro e w' ⟨rfl,hbb⟩;replace HB:=HB.trans hbb;clear hbb;rw [HVV.out])
      | (go_at_call 179;replace HB:=HB.alloc (.cells #[.slice A es.length c,.slice K kinds.length ck] 205);refine (aYj kinds (aAp es) bound _ _ es K ck 0 _ HAT.out (HT.out _ HB) (HK.out _ HB) HV4.out hlen).mono ?_;rintro e w' ⟨rfl,hbb⟩;replace HB:=HB.trans hbb;clear hbb))
     all_goals (try simp only [beq_iff_eq,beq_eq_false_iff_ne] at *)
     all_goals (go_ret2;refine ⟨?_,HB⟩;rw [HF.out];simp_all)
def aBe (x:Var):Bool :=
 decide ((x.kind≠1/\(x.kind=2∨x.kind=3)/\x.lo=0/\x.hi=0/\x.perNode=0/\x.perID=0)
  ∨ (x.kind=1/\(0<=x.lo/\x.lo<=4096)/\(0<=x.perNode/\x.perNode<=255)/\(0<=x.perID/\x.perID<=255)/\(x.perNode=0∨x.perID=0) /\ -4096<=x.hi/\x.hi<=4096/\(x.perNode≠0∨x.perID≠0∨0<=x.hi)))
def aUx (x:Var):Value := .agg #[.string x.name,.int .i64 x.kind,.int .i64 x.lo,.int .i64 x.hi,.int .i64 x.perNode,.int .i64 x.perID]
theorem aMe (x:Var) (w:World):Calls prog 140 #[aUx x] w fun e w'=>e = .returned (.bool (aBe x))/\Bel w w':=by
 obtain ⟨name,kind,lo,hi,pn,pi⟩:=x;unfold aUx;dsimp only;have HF:Hid (aBe ⟨name,kind,lo,hi,pn,pi⟩=true↔_):=(decide_eq_true_iff);dsimp only at HF
 by_cases hk:kind=1
 .subst hk
  have hp:aDo 1=true:=rfl;go_enter func140,ntmps140
  go_wp2_with (first
   | (go_at_call 159;refine (aEb _ _).mono ?_;rintro e w' ⟨rfl,rfl⟩;rw [hp])
   | (go_at_call 160;refine (aFz _ _ _ _).mono ?_;rintro e w' ⟨rfl,rfl⟩))
  all_goals (try simp only [beq_iff_eq,beq_eq_false_iff_ne,bne_iff_ne,bne_eq_false_iff_eq,aM3,aCt,Bool.not_eq_true',Bool.not_eq_eq_eq_not,Bool.not_true,Bool.not_false] at *)
  all_goals (go_ret;refine ⟨aA2 ?_,(Bel.refl _).alloc _⟩;rw [Bool.eq_iff_iff,HF.out];simp only [aM3,Bool.false_eq_true,false_iff,true_and];omega)
 .have hne:(kind != 1)=true:=by simpa using hk
  cases hkk:aDo kind with
  | false =>
   have hk2:¬ (kind=1∨kind=2∨kind=3):=by
    intro h;unfold aDo at hkk;simp at hkk;omega
   go_enter func140,ntmps140
   go_wp2_with (go_at_call 159;refine (aEb _ _).mono ?_;rintro e w' ⟨rfl,rfl⟩;rw [hkk])
   go_ret;refine ⟨aA2 ?_,(Bel.refl _).alloc _⟩
   symm
   rw [Bool.eq_false_iff,ne_eq,HF.out];omega
  | true =>
   have hk2:kind=2∨kind=3:=by
    unfold aDo at hkk;simp at hkk;omega
   have HK2:=aA0 hk2;clear hk2;go_enter func140,ntmps140
   go_wp2_with (go_at_call 159;refine (aEb _ _).mono ?_;rintro e w' ⟨rfl,rfl⟩;rw [hkk])
   all_goals
    have hk2:=HK2.out;go_ret;refine ⟨aA2 ?_,(Bel.refl _).alloc _⟩
    rw [Bool.eq_iff_iff,HF.out];simp only [beq_iff_eq,Bool.false_eq_true,false_iff]
    omega
theorem aIa (x:Var) (w:World):Calls prog 147 #[aUx x] w fun e w'=>e = .returned (.bool (aBe x))/\Bel w w':=by
 obtain ⟨name,kind,lo,hi,pn,pi⟩:=x;unfold aUx;dsimp only;have HF:Hid (aBe ⟨name,kind,lo,hi,pn,pi⟩=true↔_):=(decide_eq_true_iff);dsimp only at HF
 by_cases hk:kind=1
 .subst hk
  go_enter func147,ntmps147
  go_wp2_with (go_at_call 145;refine (aDn _ _ _ _).mono ?_;rintro e w' ⟨rfl,rfl⟩)
  all_goals (try simp only [beq_iff_eq,beq_eq_false_iff_ne,bne_iff_ne,bne_eq_false_iff_eq,aM3,aCt,Bool.not_eq_true',Bool.not_eq_eq_eq_not,Bool.not_true,Bool.not_false] at *)
  all_goals (go_ret;refine ⟨aA2 ?_,(Bel.refl _).alloc _⟩;rw [Bool.eq_iff_iff,HF.out];simp only [aM3,Bool.false_eq_true,false_iff,true_and];omega)
 .have hne:(kind != 1)=true:=by simpa using hk
  cases hkk:aDo kind with
  | false =>
   have hk2:¬ (kind=1∨kind=2∨kind=3):=by
    intro h;unfold aDo at hkk;simp at hkk;omega
   go_enter func147,ntmps147
   go_wp2_with (go_at_call 168;refine (aKt _ _).mono ?_;rintro e w' ⟨rfl,rfl⟩;rw [hkk])
   go_ret;refine ⟨aA2 ?_,(Bel.refl _).alloc _⟩
   symm
   rw [Bool.eq_false_iff,ne_eq,HF.out];omega
  | true =>
   have hk2:kind=2∨kind=3:=by
    unfold aDo at hkk;simp at hkk;omega
   have HK2:=aA0 hk2;clear hk2;go_enter func147,ntmps147
   go_wp2_with (go_at_call 168;refine (aKt _ _).mono ?_;rintro e w' ⟨rfl,rfl⟩;rw [hkk])
   all_goals
    have hk2:=HK2.out;go_ret;refine ⟨aA2 ?_,(Bel.refl _).alloc _⟩
    rw [Bool.eq_iff_iff,HF.out];simp only [beq_iff_eq,Bool.false_eq_true,false_iff]
    omega
end Go.Proofs.YtdcjnhoabbdanaaGreatDoor

