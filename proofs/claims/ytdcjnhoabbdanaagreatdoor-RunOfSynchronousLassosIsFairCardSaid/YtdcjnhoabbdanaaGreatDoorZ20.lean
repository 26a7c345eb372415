/- Merged. -/
import Derived.Test.YtdcjnhoabbdanaaGreatDoorZ19
set_option linter.unusedSimpArgs false
set_option linter.unnecessarySimpa false
set_option linter.unusedVariables false
set_option maxRecDepth 100000
set_option maxHeartbeats 4000000
open Go.Proofs.Tryz

namespace Go.Proofs.YtdcjnhoabbdanaaGreatDoor
open Go.RowKit
def aLg (p:Prg) (g:Graph) (c:aA6) (S v:Nat):aA6:=(List.range c.length).map fun u=>if u<v/\S.testBit u=true then aLb p g c u else c.getD u []
theorem aEz (p:Prg) (g:Graph) (c:aA6) (S v:Nat):(aLg p g c S v).length=c.length:=by simp [aLg]
theorem aKn (p:Prg) (g:Graph) (c:aA6) (S v:Nat) (i:Nat):(aLg p g c S v)[i]?=if i<c.length then some (if i<v/\S.testBit i=true then aLb p g c i else c.getD i []) else none:=by
 unfold aLg;rw [List.getElem?_map]
 by_cases h:i<c.length
 .rw [List.getElem?_range h,if_pos h];rfl
 .rw [if_neg h,List.getElem?_eq_none (by simp;omega)];rfl
theorem aPj (p:Prg) (g:Graph) (c:aA6) (S:Nat):aLg p g c S 0=c:=by
 apply List.ext_getElem?
 intro i
 rw [aKn]
 by_cases h:i<c.length
 .rw [if_pos h,if_neg (by omega),aA8 h,List.getElem?_eq_getElem h]
 .rw [if_neg h,List.getElem?_eq_none (by omega)]
theorem aPi (p:Prg) (g:Graph) (c:aA6) (S:Nat):aLg p g c S c.length=aBi p g c S:=by
 unfold aLg aBi;refine List.map_congr_left fun u hu=>?_
 rw [List.mem_range] at hu;cases hb:S.testBit u with
 | true=>rw [if_pos ⟨hu,rfl⟩,if_pos rfl]
 | false=>rw [if_neg (fun h=>by cases h.2),if_neg (by decide)]
theorem aS8 {p:Prg} {g:Graph} {c:aA6} {S v:Nat} (hb:S.testBit v=true):(aLg p g c S v).set v (aLb p g c v)=aLg p g c S (v+1):=by
 apply List.ext_getElem?
 intro i
 rw [List.getElem?_set,aKn,aKn,aEz]
 by_cases he:v=i
 .subst he
  rw [if_pos rfl]
  by_cases h:v<c.length
  .rw [if_pos h,if_pos h,if_pos ⟨by omega,hb⟩]
  .rw [if_neg h,if_neg h]
 .rw [if_neg he]
  have e:(i<v/\S.testBit i=true)↔(i<v+1/\S.testBit i=true):=by
   constructor
   .rintro ⟨h,h'⟩;exact ⟨by omega,h'⟩
   .rintro ⟨h,h'⟩;exact ⟨by omega,h'⟩
  simp only [e]
theorem aV6 {p:Prg} {g:Graph} {c:aA6} {S v:Nat} (hb:S.testBit v=false):aLg p g c S v=aLg p g c S (v+1):=by
 apply List.ext_getElem?
 intro i
 rw [aKn,aKn]
 have e:(i<v/\S.testBit i=true)↔(i<v+1/\S.testBit i=true):=by
  constructor
  .rintro ⟨h,h'⟩;exact ⟨by omega,h'⟩
  .rintro ⟨h,h'⟩
   refine ⟨?_,h'⟩
   have:i≠v:=by rintro rfl;rw [hb] at h';cases h'
   omega
 simp only [e]
theorem aOs (B:Nat) (p:Prg) (g:Graph) (vc:Value) (c:aA6) (S:Nat) (w:World) (hM:aDb w B p g) (hC:aAw w vc c) (hm:aD1 p g c=0) (hS:S<4294967296) (hen:∀ v,v<c.length->S.testBit v=true->0<=aCe p.rules g c v) (hL:aAu p=true) (hCL:aBs c=true) :
  Calls prog 88 #[.pointer (some ⟨B,0,none⟩),vc,.int .u32 (S:Int)] w (aT7 (aBi p g c S) w):=by
 have HM:=aA0 (fun w' (k:Bel w w')=>hM.keep k);have HC:=aA0 (fun w' (k:Bel w w')=>hC.keep k);obtain ⟨AC,kc,rfl,_,_,_⟩:=hC;have hle:c.length<=24:=by rw [aDg hm];exact (aAp (aB8 hm).1).2.1.le
 have HK:=aA0 (fun v (hv:v<c.length)=>aNs hm hv);have HMM:=aA0 hm;have HEN:=aA0 hen;have HL:=aA0 hL;have HCL:=aA0 hCL;clear hm hen hL hCL hM;have HW:=Bel.refl w;go_enter func88,ntmps88
 go_wp2_with (go_at_call 51;refine (aLv _ c _ (HC.out _ HW) HCL.out).mono ?_;rintro e w' ⟨gb,cap,hs,rfl,hO,hsn,hb⟩;have HO:=aA0 hO;have HSN:=aA0 hsn;clear hsn;replace HW:=HW.trans hb;clear hb hO)
 go_loopg [8,13] c.length (fun m _x z wr=>∃ (v:Nat) (hs:List Value),v<=c.length/\m=c.length-v/\z = .int .i64 v/\Hid (OwnC wr w.heap.size gb cap (aLg p g c S v) hs)/\Hid (aH1 w.heap.size wr hs)/\Bel w wr)
 case atStart=>exact ⟨0,hs,by omega,rfl,rfl,by show OwnC _ _ _ _ _ _;rw [aPj];exact HO.out,HSN,HW⟩
 case round =>
  clear HO HSN HW;obtain ⟨v,hs,hv,rfl,rfl,HO,HSN,HW⟩:=hrel
  by_cases hlt:v<c.length
  .have hd0:decide (v<c.length)=true:=by simpa using hlt
   cases hb:S.testBit v with
   | true =>
    have hq:bits .and .u32 ((S:Int) / 2 ^ v) 1=1:=by rw [aTe hS,hb];rfl
    have hf:=HEN.out v hlt hb;obtain ⟨k,hk⟩:=Int.eq_ofNat_of_zero_le hf;have hkl:k<p.rules.length:=by have:=(aLr p.rules g c v).2;omega
    have HFK:=aA0 hk;have HPY:=aA0 (aS8 (p:=p) (g:=g) (c:=c) hb);have HMF:Hid (aLb p g c v=aC7 p g c v p.rules[k].sets):=by show _=_;unfold aLb;rw [hk,aOd hkl]
    have HSL:Hid (hs.length=c.length):=by have:=HO.out.own.1;rw [aEz] at this;show _=_;omega
    clear hf hk hb
    go_wp2_with (first
     | (go_at_call 108;refine (aKf B p g _ c v _ (HM.out _ HW) (HC.out _ HW) (HK.out v hlt) HL.out).mono ?_;rintro e w' ⟨rfl,hbb⟩;rw [HFK.out];replace HW:=HW.trans hbb;replace HO:=aA0 (HO.out.keep hbb);replace HSN:=aA0 (HSN.out.size hbb.size);clear hbb)
     | (go_at_call 110;refine (aQj B p g _ c v k _ (HM.out _ HW) (HC.out _ HW) HMM.out hlt hkl HL.out HCL.out).mono ?_;rintro e w' ⟨R,rc,rfl,hN,hbb⟩;have hgb:=(aBg HO.out.own).2;have HWZ:=aA0 HW.size;have HN:=aA0 hN;replace HW:=HW.trans hbb;replace HO:=aA0 (HO.out.keep hbb);replace HSN:=aA0 (HSN.out.size hbb.size);have y1:=aGu HO.out.own v (by rw [HSL.out];omega);have y2:=HO.out.own.frozenAt v;have ygb:=(aBg HO.out.own).2;clear hbb hN))
    go_roundg (c.length-(v+1))
    case rel =>
     refine ⟨v+1,hs.set v (.slice R (aC7 p g c v p.rules[k].sets).length rc),by omega,rfl,by go_num,?_,(HSN.out.set HN.out HWZ.out v).size (by simp),HW.setCell (by have:=aBg HO.out.own;simp;omega) _⟩
     have h3:=HN.out;show OwnC _ _ _ _ _ _
     rw [<- HPY.out,HMF.out];exact HO.out.set (v:=v) (by rw [aEz];exact hlt) h3.1 h3.2.1 h3.2.2.1 (h3.off (by omega))
    case measure=>omega
   | false =>
    have hq:bits .and .u32 ((S:Int) / 2 ^ v) 1=0:=by rw [aTe hS,hb];rfl
    have HPN:=aA0 (aV6 (p:=p) (g:=g) (c:=c) hb);clear hb
    go_wp2_with fail
    go_roundg (c.length-(v+1))
    case rel=>exact ⟨v+1,hs,by omega,rfl,by go_num,by show OwnC _ _ _ _ _ _;rw [<- HPN.out];exact HO.out,HSN,HW⟩
    case measure=>omega
  .have hd0:decide (v<c.length)=false:=by simpa using hlt
   obtain rfl:v=c.length:=by omega
   go_wp2_with fail
   go_ret;have hO:=HO.out;rw [aPi] at hO;exact ⟨gb,cap,hs,by rw [aEg];rfl,hO,HSN.out,HW⟩
theorem aPx.nil (w:World) (B:Nat):aPx w B none 0 []:=⟨aAi.nil,Nat.le_refl _,by unfold maxLen;simp,fun b o e=>by cases e⟩
theorem aAw.nil (w:World):aAw w (.slice none 0 0) []:=⟨none,0,rfl,aAi.nil,Nat.le_refl _,by unfold maxLen;omega⟩
end Go.Proofs.YtdcjnhoabbdanaaGreatDoor

