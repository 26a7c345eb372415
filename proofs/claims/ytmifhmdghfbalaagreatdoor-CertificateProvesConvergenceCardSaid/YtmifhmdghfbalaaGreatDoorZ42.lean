/- Merged. -/
import Derived.Test.YtmifhmdghfbalaaGreatDoorZ39
set_option linter.unusedSimpArgs false
set_option linter.unnecessarySimpa false
set_option linter.unusedVariables false
set_option maxRecDepth 100000
set_option maxHeartbeats 4000000
open Go.Proofs.Tryz

namespace Go.Proofs.YtmifhmdghfbalaaGreatDoor
open Go.RowKit
attribute [local go_sem] Oper.semAt_some
theorem aTg {p:Prg} {g:Graph} {kind:Int} {legit:List Bool} {l:List (List Term)}:aC9 p g kind legit l=if aFx p g kind legit l≠0 then (0,aFx p g kind legit l) else aLz legit (aBj p g kind).1.arcs (aDz p g l):=by
 unfold aC9 aFx
 by_cases h1:(aBj p g kind).2≠0
 .rw [if_pos h1,if_pos h1,if_pos h1]
 .rw [if_neg h1,if_neg h1]
  by_cases h2:(aD6 p l&&decide (legit.length=(aBj p g kind).1.enabled.length))=false
  .rw [if_pos h2,if_pos h2,if_pos (by decide)]
  .rw [if_neg h2,if_neg h2,if_neg (by decide)]
theorem aK0 {p:Prg} {g:Graph} {kind:Int} {legit:List Bool} {l:List (List Term)} (h:aFx p g kind legit l=0):(aBj p g kind).2=0/\aD6 p l=true/\legit.length=(aBj p g kind).1.enabled.length:=by
 unfold aFx at h;split at h
 .rename_i h1;exact absurd h h1
 rename_i h1
 split at h
 .cases h
 rename_i h2
 rw [Bool.not_eq_false,Bool.and_eq_true,decide_eq_true_iff] at h2;exact ⟨by simpa using h1,h2.1,h2.2⟩
theorem aN7 {p:Prg} {g:Graph} {kind:Int} {legit:List Bool} (h0:(aBj p g kind).2=0) (hn:legit.length=(aBj p g kind).1.enabled.length) (hfew:(aAs p g).2=0->aC7 p g<=200/\g.ports.length<=5) :
  (aBj p g kind).1.arcs.length=legit.length/\legit.length<=200/\(∀ x∈(aBj p g kind).1.arcs,x.length<=31/\∀ y∈x,0<=y.2/\y.2<(legit.length:Int))/\aCf p g=0/\aC7 p g=(legit.length:Int)/\1<=legit.length /\
   aO2 (aBj p g kind).1=true/\wfS (aBj p g kind).1/\aM6 (aBj p g kind).1=true:=by
 obtain ⟨n,h1,h2,h3,h4,h5,h6,h7⟩:=aUt h0 hfew;rw [h1] at hn ⊢;have hnn:legit.length=n:=by rw [hn];exact aG5 p g n
 subst hnn;exact ⟨aHb _ _ _ _,h6,bBi h2 h3 h4 h7,h3,h2,h5,bB1 h3 h2 h4 h7,bJr h3 h2 h4 h7,bB0 h3 h2 h6 h7⟩
theorem bBg {legit:List Bool} {ls:List (List (Nat × Int))} {V:Nat->List Int} {k:Nat} (h:∀ j,j<k->aZa legit ls V j=false) (hk:aZa legit ls V k=false):∀ j,j<k+1->aZa legit ls V j=false:=fun j hj=>by
 rcases Nat.lt_or_ge j k with h1 | h1
 .exact h j h1
 .obtain rfl:j=k:=by omega
  exact hk
theorem aDq (v1:Value) (p:Prg) (v2:Value) (g:Graph) (kind:Int) (AL:Option Addr) (cL:Nat) (legit:List Bool) (A:Option Addr) (ca:Nat) (l:List (List Term)) (w:World) (h:aE0 w v1 p) (h2:aAl w v2 g) (hB:aDa w AL legit.length legit) (hTm:aAu w A l.length l)
  (hL:aAt p=true) (hG:aB3 g=true) (hl:l.length<=10) (he:∀ e∈l,e.length<=250) (hfew:(aAs p g).2=0->aC7 p g<=200/\g.ports.length<=5) :
  Calls prog 39 #[v1,v2,.int .i64 kind,.slice AL legit.length cL,.slice A l.length ca] w fun e w'=>e = .returned (.tuple #[.int .i64 (aC9 p g kind legit l).1,.int .i64 (aC9 p g kind legit l).2])/\Bel w w':=by
 have HPV:=aA1 (fun w' (k:Bel w w')=>h.keep k);have HGV:=aA1 (fun w' (k:Bel w w')=>h2.keep k);have HBR:=aA1 (fun w' (k:Bel w w')=>hB.keep k);obtain ⟨A1,k1,A2,k2,rfl,_,_,_,_,_,_⟩:=h;obtain ⟨A3,k3,A4,k4,rfl,_,_,_,_,_,_⟩:=h2;have HL:=aA1 hL;have HGL:=aA1 hG;have HFW:=aA1 hfew;have HTR:=aA1 (fun w' (k:Bel w w')=>hTm.keep k);have HLE:=aA1 he;have HF:=aA1 (aTg (p:=p) (g:=g) (kind:=kind) (legit:=legit) (l:=l));have HV0:=aA1 (aK0 (p:=p) (g:=g) (kind:=kind) (legit:=legit) (l:=l));have HVL:Hid (∀ u,(aDz p g l u).length=l.length):=fun u=>aFb _ _ _;obtain ⟨ve,hve⟩:∃ ve,aFx p g kind legit l=ve:=⟨_,rfl⟩;rw [hve] at HF HV0;have HVE:=aA1 hve;obtain ⟨s,hs⟩:∃ s,(aBj p g kind).1=s:=⟨_,rfl⟩;have HBS:=aA1 hs;have HW:=Bel.refl ((w.alloc (.cells #[.string p.name,.slice A1 p.vars.length k1,.slice A2 p.rules.length k2] 25)).alloc (.cells #[.slice A3 g.ids.length k3,.slice A4 g.ports.length k4] 29));clear hTm hB hL hG he hfew hve
 by_cases h1:ve=0
 .subst h1
  rw [if_neg (by decide)] at HF
  obtain ⟨hb0,_,hln⟩:=HV0.out rfl;obtain ⟨t1,t2,t3,_⟩:=aN7 hb0 hln HFW.out;rw [hs] at t1 t3 HF;have HT1:=aA1 t1;have HT3:=aA1 t3;clear hb0 hln t1 t3 hs;go_enter func39,ntmps39
  go_wp2_with (go_at_call 83;refine (aS5 _ p _ g kind AL cL legit A ca l _ (HPV.out _ (aA0 HW)) (HGV.out _ (aA0 HW)) (HTR.out _ (aA0 HW)) HL.out HGL.out (hl) (HLE.out) HFW.out).mono ?_;rintro e w1 hret;unfold aWb at hret;rw [HVE.out] at hret;obtain ⟨RE,nE,cE,RA,nA,cA,H,nH,cH,rfl,hok,hb⟩:=hret;obtain ⟨hS,rfl,hR⟩:=hok rfl;rw [HBS.out] at hS;obtain ⟨AE',cE',AA',cA',hag,_⟩:=(id hS:aCo _ _ _);obtain ⟨⟨rfl,rfl,rfl⟩,rfl,rfl,rfl⟩:(RE=AE'/\nE=s.enabled.length/\cE=cE')/\RA=AA'/\nA=s.arcs.length/\cA=cA':=(by simpa using hag);have HS1:=aA1 (fun w3 (kk:Bel w1 w3)=>hS.keep kk);have HR1:=aA1 (fun w3 (kk:Bel w1 w3)=>hR.keep kk);have HBN:=aA1 (Blk.new w1 #[.slice RE s.enabled.length cE,.slice RA s.arcs.length cA] 70);clear hS hR hag hok;replace HW:=HW.trans hb;clear hb;(try clear p0 p1 p2 g0 g1 gsz);obtain ⟨p0,p1,p2,g0,g1,gsz⟩:=aA6 HW;have HB1:=aA1 (aA0 HW);have HWX:=(Bel.refl w1).alloc (.cells #[.slice RE s.enabled.length cE,.slice RA s.arcs.length cA] 70))
  clear p0 p1 p2 g0 g1 gsz HW
  go_loopg [15] legit.length (fun m z wr=>∃ k:Nat,k<=legit.length/\m=legit.length-k/\z = .int .i64 (k:Int)/\Hid (∀ j,j<k->aZa legit s.arcs (aDz p g l) j=false)/\Bel (w1.alloc (.cells #[.slice RE s.enabled.length cE,.slice RA s.arcs.length cA] 70)) wr)
  case atStart=>exact ⟨0,by omega,rfl,rfl,fun j hj=>by omega,Bel.refl _⟩
  case round =>
   clear HWX;obtain ⟨k,hk,rfl,rfl,HQ,HWr⟩:=hrel;have HB1r:=aA1 (HB1.out.trans (aA3 HWr))
   by_cases hlt:k<legit.length
   .have hd0:decide (k<legit.length)=true:=by simpa using hlt
    have hkI:(k:Int)<(legit.length:Int):=by omega
    obtain ⟨bL,oL,rfl,hbL,c0⟩:=(HBR.out _ HB1r.out).at_ k hlt;have HBD:Hid (aZa legit s.arcs (aDz p g l) k=(!legit[k] && !aFy legit s.arcs (aDz p g l) k)):=by show _=_;unfold aZa;rw [aA7 hlt]
    generalize legit[k]=b at *;cases b with
    | true =>
     go_wp2_with fail
     go_roundg (legit.length-(k+1))
     case rel=>exact ⟨k+1,by omega,rfl,by go_num,bBg HQ.out (by rw [HBD.out];rfl),HWr⟩
     case measure=>omega
    | false =>
     have hka:k<s.arcs.length:=by rw [HT1.out];exact hlt
     obtain ⟨u1,u2⟩:=HT3.out _ (List.getElem_mem hka);have U2:=aA1 u2;obtain ⟨b,hb⟩:∃ b,aFy legit s.arcs (aDz p g l) k=b:=⟨_,rfl⟩;rw [hb] at HBD;have HGD:=aA1 hb;have hN:=HBN.out.keep HWr;have n0:=hN.cell 0 (v := .slice RE s.enabled.length cE) rfl;have n1:=hN.cell 1 (v := .slice RA s.arcs.length cA) rfl;have nl:=hN.lt;clear hb u2 hN;cases b with
     | true =>
      go_wp2_with (go_at_call 84;refine (aS0 _ s (some ⟨bL,oL,none⟩) cL legit H cH legit.length k (aDz p g l) _ (HS1.out _ (aA3 HWr)) (HBR.out _ HB1r.out) (HR1.out _ (aA3 HWr)) rfl hlt hka U2.out (by omega) (fun u=>by rw [HVL.out];omega)).mono ?_;rintro e w' ⟨rfl,hb⟩;rw [HGD.out];replace HWr:=HWr.trans hb;clear hb)
      go_roundg (legit.length-(k+1))
      case rel=>exact ⟨k+1,by omega,rfl,by go_num,bBg HQ.out (by rw [HBD.out];rfl),HWr⟩
      case measure=>omega
     | false =>
      go_wp2_with (go_at_call 84;refine (aS0 _ s (some ⟨bL,oL,none⟩) cL legit H cH legit.length k (aDz p g l) _ (HS1.out _ (aA3 HWr)) (HBR.out _ HB1r.out) (HR1.out _ (aA3 HWr)) rfl hlt hka U2.out (by omega) (fun u=>by rw [HVL.out];omega)).mono ?_;rintro e w' ⟨rfl,hb⟩;rw [HGD.out];replace HWr:=HWr.trans hb;clear hb)
      go_ret2
      rw [HF.out,aXa hlt HQ.out HBD.out];exact ⟨rfl,HB1.out.trans (aA3 HWr)⟩
   .have hd0:decide (k<legit.length)=false:=by simpa using hlt
    obtain rfl:k=legit.length:=by omega
    go_wp2_with fail
    go_ret2
    rw [HF.out,aMf HQ.out];exact ⟨rfl,HB1r.out⟩
 .rw [if_pos h1] at HF
  have d0:(ve != 0)=true:=by simpa using h1
  clear h1;go_enter func39,ntmps39
  go_wp2_with (go_at_call 83;refine (aS5 _ p _ g kind AL cL legit A ca l _ (HPV.out _ (aA0 HW)) (HGV.out _ (aA0 HW)) (HTR.out _ (aA0 HW)) HL.out HGL.out (hl) (HLE.out) HFW.out).mono ?_;rintro e w1 hret;unfold aWb at hret;rw [HVE.out] at hret;obtain ⟨RE,nE,cE,RA,nA,cA,H,nH,cH,rfl,hok,hb⟩:=hret;clear hok;replace HW:=HW.trans hb;clear hb;(try clear p0 p1 p2 g0 g1 gsz);obtain ⟨p0,p1,p2,g0,g1,gsz⟩:=aA6 HW;replace HW:=HW.alloc (.cells #[.slice RE nE cE,.slice RA nA cA] 70))
  go_ret2
  rw [HF.out];exact ⟨rfl,aA0 HW⟩
theorem aO6 {p:Prg} {g:Graph} {kind:Int} {legit:List Bool} {e:List Term}:aP1 p g kind legit e=if (aC9 p g kind legit [e]).2≠0 then (0,(aC9 p g kind legit [e]).2) else (aSe (aF0 p g legit e legit.length),0):=rfl
theorem aTh {p:Prg} {g:Graph} {kind:Int} {legit:List Bool} {l:List (List Term)} (h:(aC9 p g kind legit l).2=0):aFx p g kind legit l=0/\(aC9 p g kind legit l).1 = -1:=by
 rw [aTg] at h ⊢
 by_cases h1:aFx p g kind legit l=0
 .rw [if_neg (by simpa using h1)] at h ⊢
  refine ⟨h1,?_⟩
  unfold aLz at h ⊢;split at h
  .simp at h
  .rename_i hn;first | rfl | (rw [hn])
 .rw [if_pos h1] at h;exact absurd h h1
theorem bHo {p:Prg} {g:Graph} {e:List Term} {n k:Nat} (hf:aCf p g=0) (hn:aC7 p g=(n:Int)) (he:EOK p e) (hk:k<n) : -30000000000<=aMz p g e k/\aMz p g e k<=30000000000:=by
 have hm:aCp p g (aBp p g k)=0:=aEr hf (by omega)
 have hcl:(aBp p g k).length<=24:=by rw [aCa hm];exact (aAe hf).2.1.le
 obtain ⟨s1,s2⟩:=aSj (g:=g) (c:=aBp p g k) (e:=e) (aBp p g k).length fun v hv=>aPz hm he v hv;have hv:aMz p g e k=aSi g (aBp p g k) e (aBp p g k).length:=by unfold aMz aDz aPj;rfl
 rw [hv];omega
theorem aW7 {p:Prg} {g:Graph} {legit:List Bool} {e:List Term} {n m:Nat} (hf:aCf p g=0) (hn:aC7 p g=(n:Int)) (he:EOK p e) (hm:m<=n):∀ x∈aF0 p g legit e m,-30000000000<=x/\x<=30000000000:=by
 intro x hx
 unfold aF0 at hx;obtain ⟨k,hk,rfl⟩:=List.mem_map.1 hx;have:=List.mem_range.1 (List.mem_filter.1 hk).1;exact bHo hf hn he (by omega)
end Go.Proofs.YtmifhmdghfbalaaGreatDoor

