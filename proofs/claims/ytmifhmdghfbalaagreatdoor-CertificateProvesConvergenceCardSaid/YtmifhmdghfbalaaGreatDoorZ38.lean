/- Merged. -/
import Derived.Test.YtmifhmdghfbalaaGreatDoorZ33
import Derived.Test.YtmifhmdghfbalaaGreatDoorZ35
import Derived.Test.YtmifhmdghfbalaaGreatDoorZ36
set_option linter.unusedSimpArgs false
set_option linter.unnecessarySimpa false
set_option linter.unusedVariables false
set_option maxRecDepth 100000
set_option maxHeartbeats 8000000
open Go.Proofs.Tryz

namespace Go.Proofs.YtmifhmdghfbalaaGreatDoor
open Go.RowKit
attribute [local go_sem] Oper.semAt_some
theorem bF2:(prog.info? 135).map (fun i=>(i.zero,i.size,i.bytes))=some (some (.agg #[.int .u32 0,.int .i64 0]),2,16):=by kernel_rfl
theorem aWg:(prog.info? 130).map (fun i=>(i.zero,i.size,i.bytes))=some (some (.slice none 0 0),1,24):=by kernel_rfl
theorem aFt (v1:Value) (p:Prg) (v2:Value) (g:Graph) (kind:Int) (w:World) (h:aE0 w v1 p) (h2:aAl w v2 g) (hL:aAt p=true) (hG:aB3 g=true) (hfew:(aAs p g).2=0->aC7 p g<=200/\g.ports.length<=5) :
  Calls prog 45 #[v1,v2,.int .i64 kind] w (aN1 (aBj p g kind) w):=by
 have HPV:=aA1 (fun w' (k:Bel w w')=>h.keep k);have HGV:=aA1 (fun w' (k:Bel w w')=>h2.keep k);obtain ⟨A1,k1,A2,k2,rfl,_,_,_,_,_,_⟩:=h;obtain ⟨A3,k3,A4,k4,rfl,_,_,_,_,_,_⟩:=h2;have HW:=Bel.refl ((w.alloc (.cells #[.string p.name,.slice A1 p.vars.length k1,.slice A2 p.rules.length k2] 25)).alloc (.cells #[.slice A3 g.ids.length k3,.slice A4 g.ports.length k4] 29));have HL:=aA1 hL;have HGL:=aA1 hG;have HFEW:=aA1 hfew;clear hL hG hfew;have HF:Hid (aBj p g kind=if (aAs p g).2≠0/\(aAs p g).2≠3 then (⟨[],[]⟩,(aAs p g).2) else if aGw kind=false then (⟨[],[]⟩,12) else if (aAs p g).2≠0 then (⟨[],[]⟩,(aAs p g).2) else (aNy p g kind,0)):=rfl
 obtain ⟨NT,hNT⟩:∃ NT,NT=aAs p g:=⟨_,rfl⟩;obtain ⟨n0,e0⟩:=NT;rw [<- hNT] at HF HFEW;have HNT:=aA1 hNT;clear hNT;have HX0:Bel w (((w.alloc (.cells #[.string p.name,.slice A1 p.vars.length k1,.slice A2 p.rules.length k2] 25)).alloc (.cells #[.slice A3 g.ids.length k3,.slice A4 g.ports.length k4] 29)).alloc (.cells #[.slice none 0 0,.slice none 0 0] 70)):=(aA0 HW).alloc _
 have HSB:Hid (Blk (((w.alloc (.cells #[.string p.name,.slice A1 p.vars.length k1,.slice A2 p.rules.length k2] 25)).alloc (.cells #[.slice A3 g.ids.length k3,.slice A4 g.ports.length k4] 29)).alloc (.cells #[.slice none 0 0,.slice none 0 0] 70)) (w.heap.size+1+1) #[.slice none 0 0,.slice none 0 0] 70):=by
  have:=Blk.new ((w.alloc (.cells #[.string p.name,.slice A1 p.vars.length k1,.slice A2 p.rules.length k2] 25)).alloc (.cells #[.slice A3 g.ids.length k3,.slice A4 g.ports.length k4] 29)) #[.slice none 0 0,.slice none 0 0] 70;rw [World.size_alloc,World.size_alloc] at this;exact this
 have hend:∀ (k:Int) (wr:World),Bel w wr->aN1 (⟨[],[]⟩,k) w (.returned (.tuple #[.agg #[.slice none 0 0,.slice none 0 0],.int .i64 k])) wr:=fun k wr hb=>⟨_,rfl,aI1.empty _ _,hb⟩;have HEND:=aA1 hend;replace HW:=HW.alloc (.cells #[.slice none 0 0,.slice none 0 0] 70);clear hend
 by_cases h1:e0≠0/\e0≠3
 .rw [if_pos h1] at HF
  have d0:(e0 != 0)=true:=by simpa using h1.1
  have d1:(e0 != 3)=true:=by simpa using h1.2
  clear h1;go_enter func45,ntmps45
  go_wp2_with (go_at_call 87;refine (aCj _ p _ g _ (HPV.out _ (aA0 HW)) (HGV.out _ (aA0 HW)) HL.out HGL.out).mono ?_;rintro e wc ⟨rfl,hb⟩;rw [<- HNT.out];have HX:=HX0.trans hb;have HB:=Blk.keep HSB.out hb;have z0:=HB.cell 0 (v := .slice none 0 0) rfl;have z1:=HB.cell 1 (v := .slice none 0 0) rfl;have f0:=HB.frozen 0;have f1:=HB.frozen 1;have lb:=HB.lt;have HBC:=aA1 HB;clear HB;replace HW:=HW.trans hb;clear hb;(try clear p0 p1 p2 g0 g1 gsz);obtain ⟨p0,p1,p2,g0,g1,gsz⟩:=aA6 HW)
  have zz:=(Blk.set (Blk.set HBC.out 0 (.slice none 0 0)) 1 (.slice none 0 0));have y0:=Blk.cell zz 0 (v := .slice none 0 0) (by rfl)
  have y1:=Blk.cell zz 1 (v := .slice none 0 0) (by rfl)
  refine bodyPost_ret (v := .tuple #[.agg #[.slice none 0 0,.slice none 0 0],.int .i64 e0]) (by simp [results,Tryz.results45,go_sem,y0,y1];try go_simp) rfl ?_
  rw [HF.out];exact HEND.out _ _ ((HX.setCell (by simp;omega) _).setCell (by simp;omega) _)
 .rw [if_neg h1] at HF
  have hd0:e0=0∨e0=3:=by omega
  clear h1;cases hk:aGw kind with
  | false =>
   have HKD:=aA1 hk;rw [hk,if_pos rfl] at HF;clear hk
   rcases hd0 with rfl | rfl
   all_goals
    go_enter func45,ntmps45
    go_wp2_with (first
     | (go_at_call 87;refine (aCj _ p _ g _ (HPV.out _ (aA0 HW)) (HGV.out _ (aA0 HW)) HL.out HGL.out).mono ?_;rintro e wc ⟨rfl,hb⟩;rw [<- HNT.out];have HX:=HX0.trans hb;have HB:=Blk.keep HSB.out hb;have z0:=HB.cell 0 (v := .slice none 0 0) rfl;have z1:=HB.cell 1 (v := .slice none 0 0) rfl;have f0:=HB.frozen 0;have f1:=HB.frozen 1;have lb:=HB.lt;have HBC:=aA1 HB;clear HB;replace HW:=HW.trans hb;clear hb;(try clear p0 p1 p2 g0 g1 gsz);obtain ⟨p0,p1,p2,g0,g1,gsz⟩:=aA6 HW)
     | (go_at_call 72;refine (aD2 kind _).mono ?_;rintro e w' ⟨rfl,rfl⟩;rw [HKD.out]))
    have zz:=(Blk.set (Blk.set HBC.out 0 (.slice none 0 0)) 1 (.slice none 0 0));have y0:=Blk.cell zz 0 (v := .slice none 0 0) (by rfl)
    have y1:=Blk.cell zz 1 (v := .slice none 0 0) (by rfl)
    refine bodyPost_ret (v := .tuple #[.agg #[.slice none 0 0,.slice none 0 0],.int .i64 12]) (by simp [results,Tryz.results45,go_sem,y0,y1];try go_simp) rfl ?_
    rw [HF.out];exact HEND.out _ _ ((HX.setCell (by simp;omega) _).setCell (by simp;omega) _)
  | true =>
   have HKD:=aA1 hk;rw [hk,if_neg (by decide)] at HF
   clear hk
   rcases hd0 with rfl | rfl
   .rw [if_neg (by simp)] at HF
    obtain ⟨hs2,h5⟩:=HFEW.out rfl;obtain ⟨hfz,hn0⟩:=aQ5 HNT.out;have HFZ:=aA1 hfz;have hsp:=aNx hfz;have HSZ:Hid (aC7 p g<=32768):=by show _<=_;omega
    obtain ⟨n,hn⟩:=Int.eq_ofNat_of_zero_le (show 0<=aC7 p g by omega)
    rw [hn] at hn0 hs2 hsp;have HN:=aA1 hn;subst hn0;have HGO:=aA1 (aAe hfz).2.1;have HCK:Hid (∀ k:Nat,k<n->aCp p g (aBp p g k)=0):=fun k hk=>aEr hfz (by rw [hn];omega)
    clear hfz hn;obtain ⟨i0,hi0,hz0,hz1,hz2⟩:=info_parts aJz;obtain ⟨j0,hj0,hy0,hy1,hy2⟩:=info_parts aWg;obtain ⟨l0,hl0,hx0,hx1,hx2⟩:=info_parts bF2;go_enter func45,ntmps45
    go_wp2_with (first
     | (go_at_call 87;refine (aCj _ p _ g _ (HPV.out _ (aA0 HW)) (HGV.out _ (aA0 HW)) HL.out HGL.out).mono ?_;rintro e wc ⟨rfl,hb⟩;rw [<- HNT.out];have HX:=HX0.trans hb;have HB:=Blk.keep HSB.out hb;have z0:=HB.cell 0 (v := .slice none 0 0) rfl;have z1:=HB.cell 1 (v := .slice none 0 0) rfl;have f0:=HB.frozen 0;have f1:=HB.frozen 1;have lb:=HB.lt;have HBC:=aA1 HB;clear HB;replace HW:=HW.trans hb;clear hb;(try clear p0 p1 p2 g0 g1 gsz);obtain ⟨p0,p1,p2,g0,g1,gsz⟩:=aA6 HW)
     | (go_at_call 72;refine (aD2 kind _).mono ?_;rintro e w' ⟨rfl,rfl⟩;rw [HKD.out]))
    have HWC:=aA1 HW;have HBS:=aA1 (Blk.new wc #[.slice none 0 0,.slice none 0 0] 70);have hwcl:=HW.size;simp at hwcl
    clear z0 z1 f0 f1 lb p0 p1 p2 g0 g1 gsz
    go_loopg [11,12] n (fun m t z wr=>∃ (k tt:Nat) (RE:Option Addr) (cE:Nat) (RA:Option Addr) (cA:Nat) (hs:List Value),k<=n/\m=n-k/\t = .int .i64 (tt:Int)/\tt<=31*k/\z = .int .i64 (k:Int)/\Hid (Blk wr wc.heap.size #[.slice RE k cE,.slice RA k cA] 70)/\Hid (wr.ownsRow (wc.heap.size+1) 34 1 (.slice RE k cE) k ((esF p g k).map aF7))/\Hid (wr.ownsRow (wc.heap.size+1) 130 1 (.slice RA k cA) k hs)/\Hid (aGm wr (wc.heap.size+1) (lsF p g kind k) hs)/\Bel wc wr)
    case atStart=>exact ⟨0,0,none,0,none,0,[],by omega,rfl,rfl,by omega,rfl,HBS,World.ownsRow_nil _ _ _ _,World.ownsRow_nil _ _ _ _,aGm.nil _ _,(Bel.refl wc).alloc _⟩
    case round =>
     clear HW HBS;obtain ⟨k,tt,RE,cE,RA,cA,hs,hk,rfl,rfl,htt,rfl,HBX,HOE,HOA,HAC,HB⟩:=hrel;obtain ⟨wo,rfl⟩:∃ wo,wo=wr:=⟨_,rfl⟩;have HW:=HWC.out.trans HB
     by_cases hlt:k<n
     .have hd0:decide (k<n)=true:=by simpa using hlt
      have hm:=HCK.out k hlt;have hkn:(k:Int)<aC7 p g:=by rw [HN.out];omega
      have hk2:k<=32768:=by omega
      have HES:=aA1 (bIr p g k);have HLS:=aA1 (bJ5 p g kind k);have HKN:=aA1 hkn;obtain ⟨c,hc⟩:∃ c,aBp p g k=c:=⟨_,rfl⟩;have HCK2:=aA1 hc;rw [hc] at hm HES HLS;have HM:=aA1 hm;have HCLN:=aA1 (aCa hm);have HCLT:=aA1 (aOa hm HL.out);have hE32:=bIp hm;have hEP:=aUz hm;have HE5:Hid (aCm p g c<32):=Nat.lt_of_lt_of_le hEP (show 2 ^ g.ports.length<=2 ^ 5 from Nat.pow_le_pow_right (by decide) h5)
      have HEN:Hid (aPy p g c=aCm p g c):=by show _=_;unfold aPy;rw [if_neg (by simpa using hm)]
      have HCH:Hid (aN8 g kind (aCm p g c)=aBf g kind (aCm p g c)):=aWs HGO.out HKD.out hEP;have HLA:Hid (aEq p g kind c=(aBf g kind (aCm p g c)).1.map fun T=>(T,aVo p g (aEy p g c T))):=rfl;have hcf:=aG3 (g:=g) (kind:=kind) HE5.out;have HST:Hid (∀ T∈(aBf g kind (aCm p g c)).1,T<4294967296/\aUd p g c T=(aEy p g c T,0)/\aCp p g (aEy p g c T)=0):=fun T hT=>aJc hm HKD.out h5 hT;obtain ⟨E,hE⟩:∃ E,aCm p g c=E:=⟨_,rfl⟩;rw [hE] at HEN HCH HLA hcf HST hE32 hEP HES;have HEE:=aA1 hE;obtain ⟨ch,hch⟩:∃ ch,aBf g kind E=ch:=⟨_,rfl⟩;rw [hch] at HCH HLA hcf HST;obtain ⟨Lc,e1⟩:=ch;obtain ⟨hcf1,hcf2,_⟩:=hcf;obtain rfl:e1=0:=hcf1;have hL31:Lc.length<=31:=hcf2;obtain ⟨La,hLa⟩:∃ La,aEq p g kind c=La:=⟨_,rfl⟩;rw [hLa] at HLA HLS;clear hcf2 hm hkn hc hE hch hLa;have ht1:decide ((262144:Int)<(tt:Int)+(Lc.length:Int))=false:=decide_eq_false (by omega)
      obtain ⟨p0,p1,p2,g0,g1,gsz⟩:=aA6 HW
      go_wp2_with (first
       | (go_at_call 88;refine (aRz _ p _ g k _ (HPV.out _ (aA0 HW)) (HGV.out _ (aA0 HW)) HL.out HGL.out HFZ.out HKN.out hk2).mono ?_;rintro e w1 ⟨gb,cap,bs,rfl,hR,hb⟩;rw [HCK2.out] at hR;have hcv:=hR.conf;rw [HCLN.out] at hcv;have HCV:=aA1 (fun w' (kk:Bel w1 w')=>hcv.keep kk);have HB1:=aA1 hb;clear hR hcv;replace HW:=HW.trans hb;clear hb;(try clear p0 p1 p2 g0 g1 gsz);obtain ⟨p0,p1,p2,g0,g1,gsz⟩:=aA6 HW)
       | (go_at_call 89;refine (aT6 _ p _ g _ c _ (HPV.out _ (aA0 HW)) (HGV.out _ (aA0 HW)) (HCV.out _ (Bel.refl _)) HL.out HGL.out HCLT.out).mono ?_;rintro e w2 ⟨rfl,hb⟩;rw [HEN.out];have HB2:=aA1 hb;replace HW:=HW.trans hb;clear hb;(try clear p0 p1 p2 g0 g1 gsz);obtain ⟨p0,p1,p2,g0,g1,gsz⟩:=aA6 HW)
       | (go_at_call 90;have hps:=aT5 _ g kind E w2 (HGV.out _ (aA0 HW)) HGO.out HGL.out HKD.out hEP;rw [HCH.out] at hps;refine hps.mono ?_;rintro e w3 ⟨AL,cL,rfl,hAL,_,_,hb⟩;have HAL:=aA1 (fun w' (kk:Bel w3 w')=>hAL.keep kk);have HB3:=aA1 hb;clear hAL hps;replace HW:=HW.trans hb;clear hb;(try clear p0 p1 p2 g0 g1 gsz);obtain ⟨p0,p1,p2,g0,g1,gsz⟩:=aA6 HW))
      have HW3:=aA1 HW;have HB03:=aA1 ((HB1.out.trans HB2.out).trans HB3.out);have HB13:=aA1 (HB2.out.trans HB3.out);have hsz3:=HW.size;simp at hsz3
      have HLen:Hid (La.length=Lc.length):=by show _=_;rw [HLA.out];simp
      have HWX:=Bel.refl w3;clear p0 p1 p2 g0 g1 gsz HW
      go_loopg [17,18] Lc.length (fun m x z wr=>∃ (i:Nat) (X:Option Addr) (cX:Nat),i<=Lc.length/\m=Lc.length-i/\x = .slice X i cX/\z = .int .i64 (i:Int)/\Hid (wr.ownsRow w3.heap.size 135 2 (.slice X i cX) i ((La.take i).flatMap aBe))/\Bel w3 wr)
      case atStart=>exact ⟨0,none,0,by omega,rfl,rfl,rfl,World.ownsRow_nil _ _ _ _,HWX⟩
      case round =>
       clear HWX;obtain ⟨i,X,cX,hi,rfl,rfl,rfl,HX,HBI⟩:=hrel;have HW:=HW3.out.trans HBI
       by_cases hli:i<Lc.length
       .have hd1:decide (i<Lc.length)=true:=by simpa using hli
        have hkI:(i:Int)<(Lc.length:Int):=by omega
        obtain ⟨bL,oL,rfl,hbL,c0⟩:=(HAL.out _ (Bel.refl w3)).at_ i hli;obtain ⟨hT1,hT2,hT3⟩:=HST.out _ (List.getElem_mem hli)
        have HTA:Hid (La[i]'(by rw [HLen.out];exact hli)=(Lc[i],aVo p g (aEy p g c Lc[i]))):=by
         show _=_
         have h1:=HLA.out;subst h1;simp
        have hiA:i<La.length:=by rw [HLen.out];exact hli
        have HTK:Hid (La.take (i+1)=La.take i++[La[i]]):=List.take_succ_eq_append_getElem hiA;rw [HTA.out] at HTK;obtain ⟨T,hT⟩:∃ T,Lc[i]=T:=⟨_,rfl⟩;rw [hT] at hT1 hT2 hT3 HTK c0;have HDM:=aA1 hT3;have HDL:=aA1 (aOa hT3 HL.out);obtain ⟨D,hD⟩:∃ D,aEy p g c T=D:=⟨_,rfl⟩;rw [hD] at hT2 HDM HDL HTK;have HSR:=aA1 hT2;obtain ⟨nm,hnm⟩:∃ nm,aVo p g D=nm:=⟨_,rfl⟩;rw [hnm] at HTK;have HNM:=aA1 hnm;clear hT hT2 hT3 hD hnm HTA;have hcell:=aA1 (fun w' (kk:Bel w3 w')=>show (fun w'=>w'.cell? ⟨w.heap.size,0,none⟩=some (.string p.name)/\w'.cell? ⟨w.heap.size,1,none⟩=some (.slice A1 p.vars.length k1)/\w'.cell? ⟨w.heap.size,2,none⟩=some (.slice A2 p.rules.length k2)/\w'.cell? ⟨w.heap.size+1,0,none⟩=some (.slice A3 g.ids.length k3)/\w'.cell? ⟨w.heap.size+1,1,none⟩=some (.slice A4 g.ports.length k4)/\w.heap.size+1<w'.heap.size) w'/\w'.cell? ⟨bL,oL+i,none⟩=some (.int .u32 (T:Int))/\bL<w'.heap.size from ⟨aA6 (HW3.out.trans kk),(kk.cell hbL).trans c0,Nat.lt_of_lt_of_le hbL kk.size⟩)
        clear c0
        go_upto_region 23 with fail
        replace HBI:=HBI.drew;replace HX:=aA1 (show World.ownsRow _ _ _ _ _ _ _ from ((Bel.refl wr).drew).owns HX.out)
        go_region_held3 (fun w'=>(fun w'=>w'.cell? ⟨w.heap.size,0,none⟩=some (.string p.name)/\w'.cell? ⟨w.heap.size,1,none⟩=some (.slice A1 p.vars.length k1)/\w'.cell? ⟨w.heap.size,2,none⟩=some (.slice A2 p.rules.length k2)/\w'.cell? ⟨w.heap.size+1,0,none⟩=some (.slice A3 g.ids.length k3)/\w'.cell? ⟨w.heap.size+1,1,none⟩=some (.slice A4 g.ports.length k4)/\w.heap.size+1<w'.heap.size) w'/\w'.cell? ⟨bL,oL+i,none⟩=some (.int .u32 (T:Int))/\bL<w'.heap.size) (exact hcell.out _ HBI) ((go_simp;go_at_call 91;have hps:=bAx _ p _ g _ c T _ (HPV.out _ (aA0 (HW3.out.trans HBI))) (HGV.out _ (aA0 (HW3.out.trans HBI))) (HCV.out _ (HB13.out.trans HBI)) HL.out HGL.out HCLT.out hT1;rw [HSR.out] at hps;refine hps.mono ?_;rintro e w4 ⟨AD,cD,rfl,hDV,hb⟩;have HDV:=aA1 (fun w' (kk:Bel w4 w')=>hDV.keep kk);have HX4:=aA1 (hb.owns HX.out);replace HBI:=HBI.trans hb;clear hps hDV hb))
        go_upto_region 24 with fail
        replace HBI:=HBI.drew;replace HX4:=aA1 (show World.ownsRow _ _ _ _ _ _ _ from ((Bel.refl w4).drew).owns HX4.out)
        go_region_held3 (fun w'=>(fun w'=>w'.cell? ⟨w.heap.size,0,none⟩=some (.string p.name)/\w'.cell? ⟨w.heap.size,1,none⟩=some (.slice A1 p.vars.length k1)/\w'.cell? ⟨w.heap.size,2,none⟩=some (.slice A2 p.rules.length k2)/\w'.cell? ⟨w.heap.size+1,0,none⟩=some (.slice A3 g.ids.length k3)/\w'.cell? ⟨w.heap.size+1,1,none⟩=some (.slice A4 g.ports.length k4)/\w.heap.size+1<w'.heap.size) w'/\w'.cell? ⟨bL,oL+i,none⟩=some (.int .u32 (T:Int))/\bL<w'.heap.size) (first | exact hcell.out _ HBI | exact hcell.out _ (HBI.alloc _) | exact hcell.out _ hb6) (first
         | (go_simp;go_at_call 92;refine (aYn _ p _ g _ D _ (HPV.out _ (aA0 (HW3.out.trans HBI))) (HGV.out _ (aA0 (HW3.out.trans HBI))) (HDV.out _ ((Bel.refl w4).drew)) HL.out HGL.out HDM.out HSZ.out).mono ?_;rintro e w5 ⟨rfl,hb⟩;rw [HNM.out];have HX5:=aA1 (hb.owns HX4.out);replace HBI:=HBI.trans hb;clear hb)
         | (refine aDd _ rfl (.tmp 92) (.tmp 102) 130 rfl w3.heap.size 135 l0 (.agg #[.int .u32 0,.int .i64 0]) 2 16 underlying130 hl0 hx0 hx1 hx2 rfl (by decide) X i cX ((La.take i).flatMap aBe) (by first | (simp [Act.eval];done) | (simp [Act.eval,Act.put];done)) (HX5.out.alloc _) w5.heap.size #[.int .u32 (T:Int),.int .i64 nm] 135 (0,0) (by first | (simp [Act.eval];done) | (simp [Act.eval,Act.put];done)) (aBr _ _) rfl (by simp [Value.oneCell']) (by unfold maxLen;omega) (by omega) (by have:=HBI.size;simp;omega) ?_;intro X2 c2 w6 hown6 hgr6 _;have hb6:Bel w3 w6:=(HBI.alloc _).push (HX5.out.alloc _) hgr6))
        go_wp2_with fail
        go_roundg (Lc.length-(i+1))
        case rel =>
         refine ⟨i+1,X2,c2,by omega,rfl,rfl,by go_num,?_,hb6⟩
         show World.ownsRow _ _ _ _ _ _ _
         rw [HTK.out,List.flatMap_append];simpa [aBe] using hown6
        case measure=>omega
       .have hd1:decide (i<Lc.length)=false:=by simpa using hli
        obtain rfl:i=Lc.length:=by omega
        have hbo:=HBX.out.lt;have HB0r:=HB03.out.trans HBI
        have HXr:Hid (wr.ownsRow (wc.heap.size+1) 135 2 (.slice X La.length cX) La.length (La.flatMap aBe)):=by
         have h1:=HX.out;rw [List.take_of_length_le (by rw [HLen.out];exact Nat.le_refl _)] at h1
         show World.ownsRow _ _ _ _ _ _ _
         rw [HLen.out];exact aGr h1 (by have:=HB03.out.size;omega)
        go_upto_region 25 with fail
        refine aCl.start (fun w':World=>w'.cell? ⟨wc.heap.size,0,none⟩=some (.slice RE k cE)/\w'.cell? ⟨wc.heap.size,1,none⟩=some (.slice RA k cA)/\wc.heap.size<w'.heap.size) [13,12,11] (by kernel_rfl) ?_
        have HBW:=aA1 ((HB.trans HB0r).drew);have HBXW:=aA1 (HBX.out.keep HB0r.drew);have HOEW:=aA1 (HB0r.drew.owns HOE.out);have HOAW:=aA1 (HB0r.drew.owns HOA.out);have HACW:=aA1 (HAC.out.keep HB0r.drew);have HXW:=aA1 (((Bel.refl wr).drew).owns HXr.out);clear HBX HOE HOA HAC HXr HX HBI HB0r;generalize wr.drew=W at *
        have HNB:Hid (¬ bKb (.slice RE k cE) (.slice RA k cA) wc.heap.size):=by
         rintro (h | h)
         .have:=aK8 HOEW.out _ h.symm;omega
         .have:=aK8 HOAW.out _ h.symm;omega
        have HS:Hid (∀ w',Bel W w'->(fun w':World=>w'.cell? ⟨wc.heap.size,0,none⟩=some (.slice RE k cE)/\w'.cell? ⟨wc.heap.size,1,none⟩=some (.slice RA k cA)/\wc.heap.size<w'.heap.size) w'):=fun w' kk=>⟨(HBXW.out.keep kk).cell 0 rfl,(HBXW.out.keep kk).cell 1 rfl,(HBXW.out.keep kk).lt⟩;have hwW:=HBXW.out.lt;have hHeld:=HS.out W (Bel.refl W)
        (refine aCl.t (v:=?_) 0 104 rfl rfl (by kernel_rfl) (fun _ _ _ h=>h) hHeld (Or.inl ⟨by rfl,?_⟩) ?_;rotate_left 1;focus (intro w' hSw;(try dsimp only at hSw);go_simp;(try with_reducible rfl);done));(refine aCl.t (v:=?_) 1 105 rfl rfl (by kernel_rfl) (fun _ _ _ h=>h) hHeld (Or.inl ⟨by rfl,?_⟩) ?_;rotate_left 1;focus (intro w' hSw;(try dsimp only at hSw);go_simp;(try with_reducible rfl);done));(refine aCl.t (v:=?_) 2 106 rfl rfl (by kernel_rfl) (fun _ _ _ h=>h) hHeld (Or.inl ⟨by rfl,?_⟩) ?_;rotate_left 1;focus (intro w' hSw;(try dsimp only at hSw);go_simp;(try with_reducible rfl);done))
        (refine aCl.t (v:=?_) 5 109 rfl rfl (by kernel_rfl) (fun _ _ _ h=>h) hHeld (Or.inl ⟨by rfl,?_⟩) ?_;rotate_left 1;focus (intro w' hSw;(try dsimp only at hSw);go_simp;(try with_reducible rfl);done));(refine aCl.t (v:=?_) 6 110 rfl rfl (by kernel_rfl) (fun _ _ _ h=>h) hHeld (Or.inl ⟨by rfl,?_⟩) ?_;rotate_left 1;focus (intro w' hSw;(try dsimp only at hSw);go_simp;(try with_reducible rfl);done));(refine aCl.t (v:=?_) 7 111 rfl rfl (by kernel_rfl) (fun _ _ _ h=>h) hHeld (Or.inl ⟨by rfl,?_⟩) ?_;rotate_left 1;focus (intro w' hSw;(try dsimp only at hSw);go_simp;(try with_reducible rfl);done))
        clear hHeld;refine aCl.two (i:=3) (j:=8) (by kernel_rfl) rfl rfl (fun K hK=>?_) (fun K hK=>?_)
        .go_simp
         refine hK.out _ _ (fun _=>HS.out _ ((Bel.refl W).alloc (.cells #[.int .u32 (E:Int)] 34))) ?_
         clear hK K
         (try simp only [Act.put,List.setIfInBounds_toArray,List.set_cons_zero,List.set_cons_succ])
         refine aCl.two (i:=4) (j:=8) (by kernel_rfl) rfl rfl (fun K hK=>?_) (fun K hK=>?_)
         .refine aDd _ rfl (.tmp 105) (.tmp 107) 31 rfl (wc.heap.size+1) 34 i0 (.int .u32 0) 1 4 underlying31 hi0 hz0 hz1 hz2 rfl (by decide) RE k cE ((esF p g k).map aF7) (by first | (simp [Act.eval];done) | (simp [Act.eval,Act.put];done)) (HOEW.out.alloc _) W.heap.size #[.int .u32 (E:Int)] 34 (0,0) (by first | (simp [Act.eval];done) | (simp [Act.eval,Act.put];done)) (aBr _ _) rfl (aGh _) (by unfold maxLen;omega) (by omega) (by simp;omega) ?_
          intro R4 c4 w4 hown4 hgr4 _
          have hA4:w4.ownsRow (wc.heap.size+1) 130 1 (.slice RA k cA) k hs:=aKv (HOAW.out.alloc _) (Gr.grown hgr4) (aCq HOEW.out HOAW.out (by decide))
          have hag4:Agr (bKb (.slice RE k cE) (.slice RA k cA)) W w4:=(Agr.alloc _ W (.cells #[.int .u32 (E:Int)] 34)).trans (Agr.grownV hgr4 (fun k h => .inl h));have hb4:Blk w4 wc.heap.size #[.slice RE k cE,.slice RA k cA] 70:=hag4.blk HBXW.out (HNB.out);refine hK.out _ _ (fun _=>⟨hb4.cell 0 rfl,hb4.cell 1 rfl,hb4.lt⟩) ?_
          clear hK K
          (try simp only [Act.put,List.setIfInBounds_toArray,List.set_cons_zero,List.set_cons_succ])
          have hHeld:(fun w':World=>w'.cell? ⟨wc.heap.size,0,none⟩=some (.slice RE k cE)/\w'.cell? ⟨wc.heap.size,1,none⟩=some (.slice RA k cA)/\wc.heap.size<w'.heap.size) w4:=⟨hb4.cell 0 rfl,hb4.cell 1 rfl,hb4.lt⟩
          (refine aCl.t (v:=?_) 10 114 rfl rfl (by kernel_rfl) (fun _ _ _ h=>h) hHeld (Or.inl ⟨by rfl,?_⟩) ?_;rotate_left 1;focus (intro w' hSw;(try dsimp only at hSw);go_simp;(try with_reducible rfl);done))
          clear hHeld;refine aCl.one (i:=8) (by kernel_rfl) rfl (fun K hK=>?_)
          go_simp
          refine hK.out _ _ (fun _=>⟨(hb4.keep ((Bel.refl w4).alloc _)).cell 0 rfl,(hb4.keep ((Bel.refl w4).alloc _)).cell 1 rfl,(hb4.keep ((Bel.refl w4).alloc _)).lt⟩) ?_
          clear hK K
          (try simp only [Act.put,List.setIfInBounds_toArray,List.set_cons_zero,List.set_cons_succ])
          refine aCl.one (i:=9) (by kernel_rfl) rfl (fun K hK=>?_)
          refine aDd _ rfl (.tmp 110) (.tmp 112) 68 rfl (wc.heap.size+1) 130 j0 (.slice none 0 0) 1 24 underlying68 hj0 hy0 hy1 hy2 rfl (by decide) RA k cA hs (by first | (simp [Act.eval];done) | (simp [Act.eval,Act.put];done)) (hA4.alloc _) w4.heap.size #[.slice X Lc.length cX] 130 (0,0) (by first | (simp [Act.eval];done) | (simp [Act.eval,Act.put];done)) (aBr _ _) rfl (aJ1 _ _ _) (by unfold maxLen;omega) (by omega) (by have:=hag4.size;simp;omega) ?_
          intro R7 c7 w7 hown7 hgr7 _
          have hE7:=aKv (hown4.alloc (.cells #[.slice X Lc.length cX] 130)) (Gr.grown hgr7) (aCq (hA4.alloc (.cells #[.slice X Lc.length cX] 130)) (hown4.alloc (.cells #[.slice X Lc.length cX] 130)) (by decide))
          have hag7:=hag4.trans ((Agr.alloc _ w4 (.cells #[.slice X Lc.length cX] 130)).trans (Agr.grownV hgr7 (fun k h => .inr h)));have hb7:Blk w7 wc.heap.size #[.slice RE k cE,.slice RA k cA] 70:=hag7.blk HBXW.out (HNB.out);refine hK.out _ _ (fun _=>⟨hb7.cell 0 rfl,hb7.cell 1 rfl,hb7.lt⟩) ?_
          clear hK K
          (try simp only [Act.put,List.setIfInBounds_toArray,List.set_cons_zero,List.set_cons_succ])
          have y0:=hb7.cell 0 (v := .slice RE k cE) rfl;have y1:=hb7.cell 1 (v := .slice RA k cA) rfl;have f0:=hb7.frozen 0;have f1:=hb7.frozen 1;have yl:=hb7.lt;refine aCl.one (i:=11) (by kernel_rfl) rfl (fun K hK=>?_)
          go_simp
          refine hK.out _ _ (fun h=>absurd (by decide) h) ?_
          clear hK K
          (try simp only [Act.put,List.setIfInBounds_toArray,List.set_cons_zero,List.set_cons_succ])
          refine aCl.one (i:=12) (by kernel_rfl) rfl (fun K hK=>?_)
          go_simp
          refine hK.out _ _ (fun h=>absurd (by decide) h) ?_
          clear hK K
          (try simp only [Act.put,List.setIfInBounds_toArray,List.set_cons_zero,List.set_cons_succ])
          (refine aCl.one (i:=13) (by kernel_rfl) rfl (fun K hK=>?_));go_simp;refine hK.out _ _ (fun h=>absurd (by decide) h) ?_;clear hK K;refine aCl.done (by kernel_rfl) ?_ _;(try simp only [Act.put,List.setIfInBounds_toArray,List.set_cons_zero,List.set_cons_succ])
          obtain ⟨t1,t2,t3,t4,t5⟩:=aVp HBXW.out (Nat.le_refl _) (Nat.lt_succ_self _) HBW.out HOEW.out HOAW.out HACW.out HXW.out hag7 hE7 hown7;rw [HLen.out] at t4;have T1:=aA1 t1;have T2:=aA1 t2;have T3:=aA1 t3;have T4:=aA1 t4;clear y0 y1 f0 f1 yl hb7 t1 t2 t3 t4 hgr4 hgr7 hag4 hag7 hown4 hown7 hE7 hA4
          go_wp2_with fail
          go_roundg (n-(k+1))
          case rel =>
           refine ⟨k+1,tt+Lc.length,R4,c4,R7,c7,hs++[.slice X Lc.length cX],by omega,rfl,by go_num,by omega,by go_num,T1.out,?_,?_,?_,t5⟩
           .show World.ownsRow _ _ _ _ _ _ _
            rw [HES.out,List.map_append];exact T2.out
           .exact T3.out
           .show aGm _ _ _ _
            rw [HLS.out];exact T4.out
          case measure=>omega
         .go_simp
          refine hK.out _ _ (fun _=>HS.out _ (((Bel.refl W).alloc (.cells #[.int .u32 (E:Int)] 34)).alloc (.cells #[.slice X Lc.length cX] 130))) ?_
          clear hK K
          (try simp only [Act.put,List.setIfInBounds_toArray,List.set_cons_zero,List.set_cons_succ])
          refine aCl.one (i:=4) (by kernel_rfl) rfl (fun K hK=>?_)
          refine aDd _ rfl (.tmp 105) (.tmp 107) 31 rfl (wc.heap.size+1) 34 i0 (.int .u32 0) 1 4 underlying31 hi0 hz0 hz1 hz2 rfl (by decide) RE k cE ((esF p g k).map aF7) (by first | (simp [Act.eval];done) | (simp [Act.eval,Act.put];done)) ((HOEW.out.alloc _).alloc _) W.heap.size #[.int .u32 (E:Int)] 34 (0,0) (by first | (simp [Act.eval];done) | (simp [Act.eval,Act.put];done)) ((aQ0 W (.cells #[.int .u32 (E:Int)] 34) (.cells #[.slice X Lc.length cX] 130)).1) rfl (aGh _) (by unfold maxLen;omega) (by omega) (by simp;omega) ?_
          intro R4 c4 w4 hown4 hgr4 _
          have hA4:w4.ownsRow (wc.heap.size+1) 130 1 (.slice RA k cA) k hs:=aKv ((HOAW.out.alloc _).alloc _) (Gr.grown hgr4) (aCq HOEW.out HOAW.out (by decide))
          have hag4:Agr (bKb (.slice RE k cE) (.slice RA k cA)) W w4:=((Agr.alloc _ W (.cells #[.int .u32 (E:Int)] 34)).trans (Agr.alloc _ _ (.cells #[.slice X Lc.length cX] 130))).trans (Agr.grownV hgr4 (fun k h => .inl h));have hb4:Blk w4 wc.heap.size #[.slice RE k cE,.slice RA k cA] 70:=hag4.blk HBXW.out (HNB.out);refine hK.out _ _ (fun _=>⟨hb4.cell 0 rfl,hb4.cell 1 rfl,hb4.lt⟩) ?_
          clear hK K
          (try simp only [Act.put,List.setIfInBounds_toArray,List.set_cons_zero,List.set_cons_succ])
          have hHeld:(fun w':World=>w'.cell? ⟨wc.heap.size,0,none⟩=some (.slice RE k cE)/\w'.cell? ⟨wc.heap.size,1,none⟩=some (.slice RA k cA)/\wc.heap.size<w'.heap.size) w4:=⟨hb4.cell 0 rfl,hb4.cell 1 rfl,hb4.lt⟩
          (refine aCl.t (v:=?_) 10 114 rfl rfl (by kernel_rfl) (fun _ _ _ h=>h) hHeld (Or.inl ⟨by rfl,?_⟩) ?_;rotate_left 1;focus (intro w' hSw;(try dsimp only at hSw);go_simp;(try with_reducible rfl);done))
          clear hHeld;refine aCl.one (i:=9) (by kernel_rfl) rfl (fun K hK=>?_)
          refine aDd _ rfl (.tmp 110) (.tmp 112) 68 rfl (wc.heap.size+1) 130 j0 (.slice none 0 0) 1 24 underlying68 hj0 hy0 hy1 hy2 rfl (by decide) RA k cA hs (by first | (simp [Act.eval];done) | (simp [Act.eval,Act.put];done)) (hA4) (W.heap.size+1) #[.slice X Lc.length cX] 130 (0,0) (by first | (simp [Act.eval];done) | (simp [Act.eval,Act.put];done)) ((hgr4.block _ (by simp <;> omega) (fun h=>by have:=HOEW.out.lt _ h.symm;omega)).trans (aQ0 W (.cells #[.int .u32 (E:Int)] 34) (.cells #[.slice X Lc.length cX] 130)).2) rfl (aJ1 _ _ _) (by unfold maxLen;omega) (by omega) (by have:=hag4.size;simp;omega) ?_
          intro R7 c7 w7 hown7 hgr7 _
          have hE7:=aKv hown4 (Gr.grown hgr7) (aCq hA4 hown4 (by decide))
          have hag7:=hag4.trans (Agr.grownV hgr7 (fun k h => .inr h));have hb7:Blk w7 wc.heap.size #[.slice RE k cE,.slice RA k cA] 70:=hag7.blk HBXW.out (HNB.out);refine hK.out _ _ (fun _=>⟨hb7.cell 0 rfl,hb7.cell 1 rfl,hb7.lt⟩) ?_
          clear hK K
          (try simp only [Act.put,List.setIfInBounds_toArray,List.set_cons_zero,List.set_cons_succ])
          have y0:=hb7.cell 0 (v := .slice RE k cE) rfl;have y1:=hb7.cell 1 (v := .slice RA k cA) rfl;have f0:=hb7.frozen 0;have f1:=hb7.frozen 1;have yl:=hb7.lt;refine aCl.one (i:=11) (by kernel_rfl) rfl (fun K hK=>?_)
          go_simp
          refine hK.out _ _ (fun h=>absurd (by decide) h) ?_
          clear hK K
          (try simp only [Act.put,List.setIfInBounds_toArray,List.set_cons_zero,List.set_cons_succ])
          refine aCl.one (i:=12) (by kernel_rfl) rfl (fun K hK=>?_)
          go_simp
          refine hK.out _ _ (fun h=>absurd (by decide) h) ?_
          clear hK K
          (try simp only [Act.put,List.setIfInBounds_toArray,List.set_cons_zero,List.set_cons_succ])
          (refine aCl.one (i:=13) (by kernel_rfl) rfl (fun K hK=>?_));go_simp;refine hK.out _ _ (fun h=>absurd (by decide) h) ?_;clear hK K;refine aCl.done (by kernel_rfl) ?_ _;(try simp only [Act.put,List.setIfInBounds_toArray,List.set_cons_zero,List.set_cons_succ])
          obtain ⟨t1,t2,t3,t4,t5⟩:=aVp HBXW.out (Nat.le_refl _) (Nat.lt_succ_self _) HBW.out HOEW.out HOAW.out HACW.out HXW.out hag7 hE7 hown7;rw [HLen.out] at t4;have T1:=aA1 t1;have T2:=aA1 t2;have T3:=aA1 t3;have T4:=aA1 t4;clear y0 y1 f0 f1 yl hb7 t1 t2 t3 t4 hgr4 hgr7 hag4 hag7 hown4 hown7 hE7 hA4
          go_wp2_with fail
          go_roundg (n-(k+1))
          case rel =>
           refine ⟨k+1,tt+Lc.length,R4,c4,R7,c7,hs++[.slice X Lc.length cX],by omega,rfl,by go_num,by omega,by go_num,T1.out,?_,?_,?_,t5⟩
           .show World.ownsRow _ _ _ _ _ _ _
            rw [HES.out,List.map_append];exact T2.out
           .exact T3.out
           .show aGm _ _ _ _
            rw [HLS.out];exact T4.out
          case measure=>omega
        .go_simp
         refine hK.out _ _ (fun _=>HS.out _ ((Bel.refl W).alloc (.cells #[.slice X Lc.length cX] 130))) ?_
         clear hK K
         (try simp only [Act.put,List.setIfInBounds_toArray,List.set_cons_zero,List.set_cons_succ])
         refine aCl.one (i:=3) (by kernel_rfl) rfl (fun K hK=>?_)
         go_simp
         refine hK.out _ _ (fun _=>HS.out _ (((Bel.refl W).alloc (.cells #[.slice X Lc.length cX] 130)).alloc (.cells #[.int .u32 (E:Int)] 34))) ?_
         clear hK K
         (try simp only [Act.put,List.setIfInBounds_toArray,List.set_cons_zero,List.set_cons_succ])
         refine aCl.one (i:=4) (by kernel_rfl) rfl (fun K hK=>?_)
         refine aDd _ rfl (.tmp 105) (.tmp 107) 31 rfl (wc.heap.size+1) 34 i0 (.int .u32 0) 1 4 underlying31 hi0 hz0 hz1 hz2 rfl (by decide) RE k cE ((esF p g k).map aF7) (by first | (simp [Act.eval];done) | (simp [Act.eval,Act.put];done)) ((HOEW.out.alloc _).alloc _) (W.heap.size+1) #[.int .u32 (E:Int)] 34 (0,0) (by first | (simp [Act.eval];done) | (simp [Act.eval,Act.put];done)) ((aQ0 W (.cells #[.slice X Lc.length cX] 130) (.cells #[.int .u32 (E:Int)] 34)).2) rfl (aGh _) (by unfold maxLen;omega) (by omega) (by simp;omega) ?_
         intro R4 c4 w4 hown4 hgr4 _
         have hA4:w4.ownsRow (wc.heap.size+1) 130 1 (.slice RA k cA) k hs:=aKv ((HOAW.out.alloc _).alloc _) (Gr.grown hgr4) (aCq HOEW.out HOAW.out (by decide))
         have hag4:Agr (bKb (.slice RE k cE) (.slice RA k cA)) W w4:=((Agr.alloc _ W (.cells #[.slice X Lc.length cX] 130)).trans (Agr.alloc _ _ (.cells #[.int .u32 (E:Int)] 34))).trans (Agr.grownV hgr4 (fun k h => .inl h));have hb4:Blk w4 wc.heap.size #[.slice RE k cE,.slice RA k cA] 70:=hag4.blk HBXW.out (HNB.out);refine hK.out _ _ (fun _=>⟨hb4.cell 0 rfl,hb4.cell 1 rfl,hb4.lt⟩) ?_
         clear hK K
         (try simp only [Act.put,List.setIfInBounds_toArray,List.set_cons_zero,List.set_cons_succ])
         have hHeld:(fun w':World=>w'.cell? ⟨wc.heap.size,0,none⟩=some (.slice RE k cE)/\w'.cell? ⟨wc.heap.size,1,none⟩=some (.slice RA k cA)/\wc.heap.size<w'.heap.size) w4:=⟨hb4.cell 0 rfl,hb4.cell 1 rfl,hb4.lt⟩
         (refine aCl.t (v:=?_) 10 114 rfl rfl (by kernel_rfl) (fun _ _ _ h=>h) hHeld (Or.inl ⟨by rfl,?_⟩) ?_;rotate_left 1;focus (intro w' hSw;(try dsimp only at hSw);go_simp;(try with_reducible rfl);done))
         clear hHeld;refine aCl.one (i:=9) (by kernel_rfl) rfl (fun K hK=>?_)
         refine aDd _ rfl (.tmp 110) (.tmp 112) 68 rfl (wc.heap.size+1) 130 j0 (.slice none 0 0) 1 24 underlying68 hj0 hy0 hy1 hy2 rfl (by decide) RA k cA hs (by first | (simp [Act.eval];done) | (simp [Act.eval,Act.put];done)) (hA4) W.heap.size #[.slice X Lc.length cX] 130 (0,0) (by first | (simp [Act.eval];done) | (simp [Act.eval,Act.put];done)) ((hgr4.block _ (by simp <;> omega) (fun h=>by have:=HOEW.out.lt _ h.symm;omega)).trans (aQ0 W (.cells #[.slice X Lc.length cX] 130) (.cells #[.int .u32 (E:Int)] 34)).1) rfl (aJ1 _ _ _) (by unfold maxLen;omega) (by omega) (by have:=hag4.size;simp;omega) ?_
         intro R7 c7 w7 hown7 hgr7 _
         have hE7:=aKv hown4 (Gr.grown hgr7) (aCq hA4 hown4 (by decide))
         have hag7:=hag4.trans (Agr.grownV hgr7 (fun k h => .inr h));have hb7:Blk w7 wc.heap.size #[.slice RE k cE,.slice RA k cA] 70:=hag7.blk HBXW.out (HNB.out);refine hK.out _ _ (fun _=>⟨hb7.cell 0 rfl,hb7.cell 1 rfl,hb7.lt⟩) ?_
         clear hK K
         (try simp only [Act.put,List.setIfInBounds_toArray,List.set_cons_zero,List.set_cons_succ])
         have y0:=hb7.cell 0 (v := .slice RE k cE) rfl;have y1:=hb7.cell 1 (v := .slice RA k cA) rfl;have f0:=hb7.frozen 0;have f1:=hb7.frozen 1;have yl:=hb7.lt;refine aCl.one (i:=11) (by kernel_rfl) rfl (fun K hK=>?_)
         go_simp
         refine hK.out _ _ (fun h=>absurd (by decide) h) ?_
         clear hK K
         (try simp only [Act.put,List.setIfInBounds_toArray,List.set_cons_zero,List.set_cons_succ])
         refine aCl.one (i:=12) (by kernel_rfl) rfl (fun K hK=>?_)
         go_simp
         refine hK.out _ _ (fun h=>absurd (by decide) h) ?_
         clear hK K
         (try simp only [Act.put,List.setIfInBounds_toArray,List.set_cons_zero,List.set_cons_succ])
         (refine aCl.one (i:=13) (by kernel_rfl) rfl (fun K hK=>?_));go_simp;refine hK.out _ _ (fun h=>absurd (by decide) h) ?_;clear hK K;refine aCl.done (by kernel_rfl) ?_ _;(try simp only [Act.put,List.setIfInBounds_toArray,List.set_cons_zero,List.set_cons_succ])
         obtain ⟨t1,t2,t3,t4,t5⟩:=aVp HBXW.out (Nat.le_refl _) (Nat.lt_succ_self _) HBW.out HOEW.out HOAW.out HACW.out HXW.out hag7 hE7 hown7;rw [HLen.out] at t4;have T1:=aA1 t1;have T2:=aA1 t2;have T3:=aA1 t3;have T4:=aA1 t4;clear y0 y1 f0 f1 yl hb7 t1 t2 t3 t4 hgr4 hgr7 hag4 hag7 hown4 hown7 hE7 hA4
         go_wp2_with fail
         go_roundg (n-(k+1))
         case rel =>
          refine ⟨k+1,tt+Lc.length,R4,c4,R7,c7,hs++[.slice X Lc.length cX],by omega,rfl,by go_num,by omega,by go_num,T1.out,?_,?_,?_,t5⟩
          .show World.ownsRow _ _ _ _ _ _ _
           rw [HES.out,List.map_append];exact T2.out
          .exact T3.out
          .show aGm _ _ _ _
           rw [HLS.out];exact T4.out
         case measure=>omega
     .have hd0:decide (k<n)=false:=by simpa using hlt
      obtain rfl:k=n:=by omega
      have HB9:=aA1 (HBC.out.keep HB);have q0:=HB9.out.cell 0 (v := .slice none 0 0) rfl;have q1:=HB9.out.cell 1 (v := .slice none 0 0) rfl;have qf0:=HB9.out.frozen 0;have qf1:=HB9.out.frozen 1;have ql:=HB9.out.lt;have s0:=HBX.out.cell 0 (v := .slice RE k cE) rfl;have s1:=HBX.out.cell 1 (v := .slice RA k cA) rfl;have sl:=HBX.out.lt;have hRB:=HBC.out.lt
      go_wp2_with fail
      have zz:=(Blk.set (Blk.set HB9.out 0 (.slice RE k cE)) 1 (.slice RA k cA));have y0:=Blk.cell zz 0 (v := .slice RE k cE) (by rfl)
      have y1:=Blk.cell zz 1 (v := .slice RA k cA) (by rfl)
      refine bodyPost_ret (v := .tuple #[.agg #[.slice RE k cE,.slice RA k cA],.int .i64 0]) (by simp [results,Tryz.results45,go_sem,y0,y1];try go_simp) rfl ?_
      rw [HF.out];have hsz:(aC7 p g).toNat=k:=by rw [HN.out];simp
      have he:aNy p g kind=⟨esF p g k,lsF p g kind k⟩:=by unfold aNy esF lsF;rw [hsz]
      rw [he];refine ⟨_,rfl,?_,((HX.trans HB).setCell (by simp;omega) _).setCell (by simp;omega) _⟩
      have hlo:w.heap.size+1+1<wc.heap.size+1:=by omega
      refine aI1.lower (bEa (aB4 (aB4 HOE.out (by simpa using hlo) _) (by simpa using hlo) _) (aB4 (aB4 HOA.out (by simpa using hlo) _) (by simpa using hlo) _) ((HAC.out.box (by simpa using hlo) _).box (by simpa using hlo) _)) (by omega)
   .rw [if_pos (by simp)] at HF
    go_enter func45,ntmps45
    go_wp2_with (first
     | (go_at_call 87;refine (aCj _ p _ g _ (HPV.out _ (aA0 HW)) (HGV.out _ (aA0 HW)) HL.out HGL.out).mono ?_;rintro e wc ⟨rfl,hb⟩;rw [<- HNT.out];have HX:=HX0.trans hb;have HB:=Blk.keep HSB.out hb;have z0:=HB.cell 0 (v := .slice none 0 0) rfl;have z1:=HB.cell 1 (v := .slice none 0 0) rfl;have f0:=HB.frozen 0;have f1:=HB.frozen 1;have lb:=HB.lt;have HBC:=aA1 HB;clear HB;replace HW:=HW.trans hb;clear hb;(try clear p0 p1 p2 g0 g1 gsz);obtain ⟨p0,p1,p2,g0,g1,gsz⟩:=aA6 HW)
     | (go_at_call 72;refine (aD2 kind _).mono ?_;rintro e w' ⟨rfl,rfl⟩;rw [HKD.out]))
    have zz:=(Blk.set (Blk.set HBC.out 0 (.slice none 0 0)) 1 (.slice none 0 0));have y0:=Blk.cell zz 0 (v := .slice none 0 0) (by rfl)
    have y1:=Blk.cell zz 1 (v := .slice none 0 0) (by rfl)
    refine bodyPost_ret (v := .tuple #[.agg #[.slice none 0 0,.slice none 0 0],.int .i64 3]) (by simp [results,Tryz.results45,go_sem,y0,y1];try go_simp) rfl ?_
    rw [HF.out];exact HEND.out _ _ ((HX.setCell (by simp;omega) _).setCell (by simp;omega) _)
theorem aPe (v1:Value) (p:Prg) (v2:Value) (g:Graph) (kind:Int) (w:World) (h:aE0 w v1 p) (h2:aAl w v2 g) (hL:aAt p=true) (hG:aB3 g=true) (hfew:(aAs p g).2=0->aC7 p g<=200/\g.ports.length<=5) :
  Calls prog 45 #[v1,v2,.int .i64 kind] w (aPt (aBj p g kind) w):=(aFt v1 p v2 g kind w h h2 hL hG hfew).mono fun _ _ h=>h.plain
end Go.Proofs.YtmifhmdghfbalaaGreatDoor

