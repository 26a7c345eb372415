/- Merged. -/
import Derived.Test.YtmoebklkkjbigaaGreatDoorZ50
import Derived.Test.YtmoebklkkjbigaaGreatDoorZ44
import Derived.BigQuiet
set_option linter.unusedSimpArgs false
set_option linter.unnecessarySimpa false
set_option linter.unusedVariables false
set_option maxRecDepth 100000
set_option maxHeartbeats 8000000
open Go.Proofs.Tryz

namespace Go.Proofs.YtmoebklkkjbigaaGreatDoor
open Go.RowKit
def aSl:Prop:=∀ g,GOK g->g.ports.length<=4->(∀ kind:Int,kind=1∨kind=2->KnownL prM g kind ((2*g.ports.length:Nat):Int) 2) /\
 ∃ s:Spc,aHo prM g 3=(s,0)/\aCy s=true/\wfS s/\aCf s=true/\∀ o,OrdP s.arcs (aE3 s) s.arcs.length o->((∃ k,k<s.arcs.length/\k ∉ o)↔0<aWy g g.ports.length / 2)
theorem aSs {s:Spc} {m:Nat} {o:List Nat} {rc:List Bool} (hc:∀ o,OrdP s.arcs (aE3 s) s.arcs.length o->((∃ k,k<s.arcs.length/\k ∉ o)↔0<m)) (ho:OrdP s.arcs (aE3 s) s.arcs.length o) (hl:rc.length=s.arcs.length) (hk:∀ k,k<s.arcs.length->rc.getD k false = !decide (k∈o)):rc.any id=decide (0<m):=by
 rw [Bool.eq_iff_iff,List.any_eq_true,decide_eq_true_iff];have h:=hc o ho;constructor
 .rintro ⟨x,hx,hx2⟩
  obtain ⟨k,hk2,rfl⟩:=List.getElem_of_mem hx;have h2:=hk k (by omega)
  have h3:rc.getD k false=rc[k]:=by simp [List.getD_eq_getElem?_getD,hk2]
  rw [h3] at h2;have h4:rc[k]=true:=hx2;rw [h4] at h2;have:=h.1 ⟨k,by omega,by simpa using h2.symm⟩
  omega
 .intro h0
  obtain ⟨k,h1,h2⟩:=h.2 (by omega)
  have h3:=hk k h1;have h4:rc.getD k false=rc[k]'(by omega):=by simp [List.getD_eq_getElem?_getD,hl,h1]
  refine ⟨rc[k]'(by omega),List.getElem_mem _,?_⟩
  rw [h4] at h3;show rc[k]'(by omega)=true
  rw [h3];simp [h2]
theorem aRy (hlaw:aSl) (v:Value) (g:Graph) (local_:Bool) (w:World) (h:aB2 w v g) (hT:aDl w) :
  Calls prog 4 #[v,.bool local_] w fun e w'=>e = .returned (.bool true)/\Bel w w':=by
 have HT:=aA0 (fun w' (k:Bel w w')=>hT.keep k);have HGV:=aA0 (fun w' (k:Bel w w')=>h.keep k);obtain ⟨A,k,A2,k2,rfl,_,_,_,_,_,_⟩:=h;clear hT;have HPA:=aA0 (fun w0:World=>aRh (ba txM) tkM prM w0 aF6.1 bPy bPu aF6.2.1 aF6.2.2.1 aF6.2.2.2.1 aF6.2.2.2.2);have HB0:=aA0 ((Bel.refl w).alloc (.cells #[.slice A g.ids.length k,.slice A2 g.ports.length k2] 25));have HX:=aA0 (Blk.new w #[.slice A g.ids.length k,.slice A2 g.ports.length k2] 25);have HLAW:=aA0 hlaw;clear hlaw;cases hlg:aBt g with
 | false =>
  go_enter func4,ntmps4
  go_wp2_with (first | (go_at_call 6;refine (aEe _ g _ (HGV.out _ HB0.out)).mono ?_;rintro e w1 ⟨rfl,hb⟩;rw [hlg];have HB1:=aA0 (HB0.out.trans hb);have HX1:=aA0 (HX.out.keep hb);have x0:=HX1.out.cell 0 (v := .slice A g.ids.length k) rfl;have x1:=HX1.out.cell 1 (v := .slice A2 g.ports.length k2) rfl;have xl:=HX1.out.lt;clear hb) | (go_at_call 8;refine (aE4 _ (HT.out _ HB1.out)).mono ?_;rintro e w9 ⟨rfl,hb⟩;have HB9:=aA0 (HB1.out.trans hb);clear hb))
  go_ret;exact ⟨rfl,HB9.out⟩
 | true =>
  cases hgb:aG5 g with
  | false =>
   go_enter func4,ntmps4
   go_wp2_with (first | (go_at_call 6;refine (aEe _ g _ (HGV.out _ HB0.out)).mono ?_;rintro e w1 ⟨rfl,hb⟩;rw [hlg];have HB1:=aA0 (HB0.out.trans hb);have HX1:=aA0 (HX.out.keep hb);have x0:=HX1.out.cell 0 (v := .slice A g.ids.length k) rfl;have x1:=HX1.out.cell 1 (v := .slice A2 g.ports.length k2) rfl;have xl:=HX1.out.lt;clear hb) | (go_at_call 7;refine (aE9 _ g _ (HGV.out _ HB1.out) hlg).mono ?_;rintro e w2 ⟨rfl,hb⟩;rw [hgb];have HB2:=aA0 (HB1.out.trans hb);have HX2:=aA0 (HX1.out.keep hb);clear x0 x1 xl;have x0:=HX2.out.cell 0 (v := .slice A g.ids.length k) rfl;have x1:=HX2.out.cell 1 (v := .slice A2 g.ports.length k2) rfl;have xl:=HX2.out.lt;clear hb) | (go_at_call 8;refine (aE4 _ (HT.out _ HB2.out)).mono ?_;rintro e w9 ⟨rfl,hb⟩;have HB9:=aA0 (HB2.out.trans hb);clear hb))
   go_ret;exact ⟨rfl,HB9.out⟩
  | true =>
   have hg:=(aE6 g).1 hgb;have hn24:=hg.le
   by_cases h4:4<g.ports.length
   .have d4:decide ((4:Int)<(g.ports.length:Int))=true:=by simp;omega
    go_enter func4,ntmps4
    go_wp2_with (first | (go_at_call 6;refine (aEe _ g _ (HGV.out _ HB0.out)).mono ?_;rintro e w1 ⟨rfl,hb⟩;rw [hlg];have HB1:=aA0 (HB0.out.trans hb);have HX1:=aA0 (HX.out.keep hb);have x0:=HX1.out.cell 0 (v := .slice A g.ids.length k) rfl;have x1:=HX1.out.cell 1 (v := .slice A2 g.ports.length k2) rfl;have xl:=HX1.out.lt;clear hb) | (go_at_call 7;refine (aE9 _ g _ (HGV.out _ HB1.out) hlg).mono ?_;rintro e w2 ⟨rfl,hb⟩;rw [hgb];have HB2:=aA0 (HB1.out.trans hb);have HX2:=aA0 (HX1.out.keep hb);clear x0 x1 xl;have x0:=HX2.out.cell 0 (v := .slice A g.ids.length k) rfl;have x1:=HX2.out.cell 1 (v := .slice A2 g.ports.length k2) rfl;have xl:=HX2.out.lt;clear hb) | (go_at_call 8;refine (aE4 _ (HT.out _ HB2.out)).mono ?_;rintro e w9 ⟨rfl,hb⟩;have HB9:=aA0 (HB2.out.trans hb);clear hb))
    go_ret;exact ⟨rfl,HB9.out⟩
   .have d4:decide ((4:Int)<(g.ports.length:Int))=false:=by simp;omega
    obtain ⟨hlaw1,s,hb3,hls,hwf,hva,hcore⟩:=HLAW.out g hg (by omega)
    have hK:=aA0 (hlaw1 (if local_ then 2 else 1) (by cases local_ <;> simp))
    obtain ⟨m,hm⟩:∃ m,m=aWy g g.ports.length / 2:=⟨_,rfl⟩;rw [<- hm] at hcore;have HM:=aA0 hm;clear hm;have HBD3:=aA0 hb3;have HLS:=aA0 hls;have HWF:=aA0 hwf;have HVA:=aA0 hva;have HCO:=aA0 hcore;have HGK:=aA0 hg;have hle:=(aB5 hls).1;clear hlaw1 hb3 hls hwf hva hcore hg;have ew:IntKind.i64.wrap (2*(g.ports.length:Int))=((2*g.ports.length:Nat):Int):=by rw [IntWalk.i64_in _ (by omega)];omega
    obtain ⟨j0,hj0,hj1,hj2,hj3⟩:=aBq aK7;cases local_ with
    | false =>
     rw [if_neg (by decide)] at hK
     go_enter func4,ntmps4
     go_upto_region 4 with (first
      | (go_at_call 6;refine (aEe _ g _ (HGV.out _ HB0.out)).mono ?_;rintro e w1 ⟨rfl,hb⟩;rw [hlg];have HB1:=aA0 (HB0.out.trans hb);have HX1:=aA0 (HX.out.keep hb);have x0:=HX1.out.cell 0 (v := .slice A g.ids.length k) rfl;have x1:=HX1.out.cell 1 (v := .slice A2 g.ports.length k2) rfl;have xl:=HX1.out.lt;clear hb)
      | (go_at_call 7;refine (aE9 _ g _ (HGV.out _ HB1.out) hlg).mono ?_;rintro e w2 ⟨rfl,hb⟩;rw [hgb];have HB2:=aA0 (HB1.out.trans hb);have HX2:=aA0 (HX1.out.keep hb);clear x0 x1 xl;have x0:=HX2.out.cell 0 (v := .slice A g.ids.length k) rfl;have x1:=HX2.out.cell 1 (v := .slice A2 g.ports.length k2) rfl;have xl:=HX2.out.lt;clear hb)
      | (go_at_call 9;go_must (refine (HPA.out _).mono ?_;rintro e w3 ⟨⟨vp,rfl,hp⟩,hb⟩;have HP:=aA0 (fun w' (k:Bel w3 w')=>hp.keep k);have HB3:=aA0 (HB2.out.trans hb);have HX3:=aA0 (HX2.out.keep hb);clear x0 x1 xl;obtain ⟨A3,k3,A4,k4,rfl,_,_,_,_,_,_⟩:=hp;have HA3:=aA0 ((Bel.refl w3).alloc (.cells #[.string prM.name,.slice A3 prM.vars.length k3,.slice A4 prM.rules.length k4] 31));have HY:=aA0 (Blk.new w3 #[.string prM.name,.slice A3 prM.vars.length k3,.slice A4 prM.rules.length k4] 31);have x0:=HX3.out.cell 0 (v := .slice A g.ids.length k) rfl;have x1:=HX3.out.cell 1 (v := .slice A2 g.ports.length k2) rfl;have xl:=HX3.out.lt;clear hb)))
     have HXd0:=aA0 (HX3.out.keep HA3.out)
     go_quiet (fail)
     have HXd:=aA0 (HXd0.out.keep ((Bel.refl _).drewN nq));have HYd:=aA0 (HY.out.keep ((Bel.refl _).drewN nq));have HPD:=aA0 (HA3.out.drewN nq);have HBD:=aA0 (HB3.out.trans HPD.out);clear x0 x1 xl;have x0:=HXd.out.cell 0 (v := .slice A g.ids.length k) rfl;have x1:=HXd.out.cell 1 (v := .slice A2 g.ports.length k2) rfl;have xl:=HXd.out.lt;have y0:=HYd.out.cell 0 (v := .string prM.name) rfl;have y1:=HYd.out.cell 1 (v := .slice A3 prM.vars.length k3) rfl;have y2:=HYd.out.cell 2 (v := .slice A4 prM.rules.length k4) rfl;have yl:=HYd.out.lt;generalize (w3.alloc (.cells #[.string prM.name,.slice A3 prM.vars.length k3,.slice A4 prM.rules.length k4] 31)).drewN nq=wd at *
     go_wp2_with (first
      | (go_at_call 11;go_must (refine (aP7 _ prM _ g 1 _ _ _ (HP.out _ (HPD.out)) (HGV.out _ HBD.out) (HT.out _ HBD.out) aF6.2.2.2.1 hlg hK.out (by omega) (by omega)).mono ?_;rintro e w5 ⟨rfl,hb⟩;have HC5:=aA0 hb;clear hb;have HX5:=aA0 (HXd.out.keep HC5.out);have HY5:=aA0 (HYd.out.keep HC5.out);(try clear x0 x1 xl);(try clear y0 y1 y2 yl);have x0:=HX5.out.cell 0 (v := .slice A g.ids.length k) rfl;have x1:=HX5.out.cell 1 (v := .slice A2 g.ports.length k2) rfl;have xl:=HX5.out.lt;have y0:=HY5.out.cell 0 (v := .string prM.name) rfl;have y1:=HY5.out.cell 1 (v := .slice A3 prM.vars.length k3) rfl;have y2:=HY5.out.cell 2 (v := .slice A4 prM.rules.length k4) rfl;have yl:=HY5.out.lt))
      | (go_at_call 12;go_must (have hbd:=aHi _ prM _ g 3 _ (HP.out _ (HPD.out.trans HC5.out)) (HGV.out _ (HBD.out.trans HC5.out)) (HT.out _ (HBD.out.trans HC5.out)) aF6.2.2.2.1 hlg hK.out.few;rw [HBD3.out] at hbd;refine hbd.mono ?_;rintro e w6 ⟨v,rfl,hS,hb⟩;have HS6:=aA0 (fun w' (k:Bel w6 w')=>hS.keep k);obtain ⟨AE,cE,AA,cA,rfl,hE,_⟩:=(id hS:aBk _ _ _);have HE6:=aA0 (fun w' (k:Bel w6 w')=>hE.keep k);have HC6:=aA0 (HC5.out.trans hb);have HZ:=aA0 (Blk.new w6 #[.slice AE s.enabled.length cE,.slice AA s.arcs.length cA] 42);have HA6:=aA0 ((Bel.refl w6).alloc (.cells #[.slice AE s.enabled.length cE,.slice AA s.arcs.length cA] 42));have HX6:=aA0 (HXd.out.keep HC6.out);have HY6:=aA0 (HYd.out.keep HC6.out);(try clear x0 x1 xl);(try clear y0 y1 y2 yl);have x0:=HX6.out.cell 0 (v := .slice A g.ids.length k) rfl;have x1:=HX6.out.cell 1 (v := .slice A2 g.ports.length k2) rfl;have xl:=HX6.out.lt;have y0:=HY6.out.cell 0 (v := .string prM.name) rfl;have y1:=HY6.out.cell 1 (v := .slice A3 prM.vars.length k3) rfl;have y2:=HY6.out.cell 2 (v := .slice A4 prM.rules.length k4) rfl;have yl:=HY6.out.lt;clear hS hb hE hbd))
      | (at_make;refine aB7 _ rfl 45 (.tmp 61) (.tmp 61) rfl w6.heap.size 4 j0 (.bool false) 1 underlying45 hj0 hj1 hj2 .i64 .i64 s.enabled.length rfl rfl (by rw [hj3];omega) (by unfold maxLen;omega) (by simp) ?_;intro gr w7 hown hb;rw [aB3 _ rfl] at hown;have HR:=aA0 hown;have HB7:=aA0 (HA6.out.trans hb);have HZ7:=aA0 (HZ.out.keep hb);clear hown hb))
     have hI:MkI w6 w7 s.enabled.length gr (List.replicate s.enabled.length false) w7:=⟨HB7.out,Agr.refl _ _,by rw [List.map_replicate];exact HR.out,by simp⟩
     have hgz:=(aAa HR.out).2;clear HR x0 x1 xl y0 y1 y2 yl
     go_loopg [13] s.enabled.length (fun m z wr=>∃ (i:Nat) (r:List Bool),i<=s.enabled.length/\m=s.enabled.length-i/\z = .int .i64 (i:Int)/\Hid (MkI w6 w7 s.enabled.length gr r wr)/\Hid (Blk wr w6.heap.size #[.slice AE s.enabled.length cE,.slice AA s.arcs.length cA] 42)/\Hid (∀ k,k<s.enabled.length->r.getD k false=if k<i then (aE3 s).getD k false else false))
     case atStart=>exact ⟨0,_,by omega,rfl,rfl,hI,HZ7.out,fun k hk=>by simp [List.getD_eq_getElem?_getD,hk]⟩
     case round =>
      clear hI;obtain ⟨i,r,hi,rfl,rfl,HI,HZr,HC⟩:=hrel;have q0:=HZr.out.cell 0 (v := .slice AE s.enabled.length cE) rfl;have q1:=HZr.out.cell 1 (v := .slice AA s.arcs.length cA) rfl;have ql:=HZr.out.lt
      by_cases hlt:i<s.enabled.length
      .have hd0:decide (i<s.enabled.length)=true:=by simpa using hlt
       obtain ⟨bE,oE,rfl,hbE,e1⟩:=(HE6.out _ HI.out.bel).at_ i hlt;obtain ⟨r1,r2,r3⟩:=HI.out.at_ hlt;have hti:=aA0 (show (aE3 s).getD i false=decide (s.enabled[i]=0) by simp [aE3,List.getD_eq_getElem?_getD,hlt])
       generalize s.enabled[i]=E at *;have hbz:((E:Int)==0)=decide (E=0):=by rw [Bool.eq_iff_iff];simp
       generalize decide (E=0)=bz at *;generalize r.getD i false=old at *
       go_wp2_with fail
       go_roundg (s.enabled.length-(i+1))
       case rel =>
        refine ⟨i+1,r.set i bz,by omega,rfl,by go_num,HI.out.put i bz,HZr.out.other (a:=⟨gr,i,none⟩) (fun e=>HZr.out.apart HI.out.res (by decide) (by rw [e];rfl)) _,fun j hj=>?_⟩
        rw [aPu _ _ _ _ (by rw [HI.out.len];exact hlt),HC.out j hj]
        by_cases e:i=j
        .subst e;rw [if_pos rfl,if_pos (by omega),hti.out]
        .rw [if_neg e]
         by_cases h2:j<i
         .rw [if_pos h2,if_pos (by omega)]
         .rw [if_neg h2,if_neg (by omega)]
       case measure=>omega
      .obtain rfl:i=s.enabled.length:=by omega
       have hd0:decide (s.enabled.length<s.enabled.length)=false:=by simp
       have hrl:r=aE3 s:=by
        apply List.ext_getElem (by rw [HI.out.len,aN8])
        intro j h1 h2
        have:=HC.out j (by rw [<- HI.out.len];exact h1)
        rw [if_pos (by rw [<- HI.out.len];exact h1)] at this
        simpa [List.getD_eq_getElem?_getD,h1,h2] using this
       subst hrl
       go_upto_region 15 with fail
       have HEN:=aA0 (aBv HVA.out).1;have HSB:=aA0 (aGr (l:=aE3 s) (aMz HI.out.res HEN.out.symm));have HBR:=aA0 HI.out.bel;have HGG:=aA0 (HBD.out.trans (HC6.out.trans HI.out.bel));have hle2:s.arcs.length<=700:=by have:=HEN.out;omega
       have hpos:1<=s.enabled.length:=by
        have:=HVA.out;unfold aCf at this;simp only [Bool.and_eq_true,decide_eq_true_eq] at this
        exact this.1.1
       have hpos2:decide (0<s.arcs.length)=true:=by have:=HEN.out;simp;omega
       have xb:=HX6.out.keep HBR.out;have x0:=xb.cell 0 (v := .slice A g.ids.length k) rfl;have x1:=xb.cell 1 (v := .slice A2 g.ports.length k2) rfl;have xl:=xb.lt;have XB:=aA0 xb;clear HI HC hpos xb;rw [show s.enabled.length=s.arcs.length from HEN.out.symm]
       go_wp2_with (first
        | (go_at_call 13;go_must (refine (bCc _ s _ _ (aE3 s) _ (HS6.out _ HBR.out) HSB.out HLS.out HWF.out HVA.out).mono ?_;rintro e w8 ⟨o,rc,gc,rfl,ho,hrc,hck,hown,hb⟩;have HO:=aA0 ho;have HCK:=aA0 hck;have HOC:=aA0 hown;have HB8:=aA0 hb;clear x0 x1 xl;have x0:=(XB.out.keep hb).cell 0 (v := .slice A g.ids.length k) rfl;have x1:=(XB.out.keep hb).cell 1 (v := .slice A2 g.ports.length k2) rfl;have xl:=(XB.out.keep hb).lt;clear ho hck hown hb))
        | (go_at_call 10;go_must (refine (bDi _ g _ (HGV.out _ (HGG.out.trans HB8.out)) hlg HGK.out).mono ?_;rintro e w9 ⟨rfl,hb⟩;rw [<- HM.out];have HB9:=aA0 (HB8.out.trans hb);have HB98:=aA0 hb;clear hb))
        | (go_at_call 8;go_must (refine (aE4 _ (HT.out _ (HGG.out.trans HB9.out))).mono ?_;rintro e w10 ⟨rfl,hb⟩;have HB10:=aA0 (HB9.out.trans hb);have HB108:=aA0 (HB98.out.trans hb);clear hb))
        | (go_at_call 14;go_must (refine (bC2 _ _ _ rc _ (aGr (HB108.out.owns HOC.out)) (by omega)).mono ?_;rintro e w11 ⟨rfl,hb⟩;rw [aSs HCO.out HO.out hrc HCK.out];have HB11:=aA0 (HB10.out.trans hb);clear hb)))
       go_ret;exact ⟨rfl,HGG.out.trans HB11.out⟩
    | true =>
     rw [if_pos rfl] at hK;go_enter func4,ntmps4
     go_upto_region 4 with (first
      | (go_at_call 6;refine (aEe _ g _ (HGV.out _ HB0.out)).mono ?_;rintro e w1 ⟨rfl,hb⟩;rw [hlg];have HB1:=aA0 (HB0.out.trans hb);have HX1:=aA0 (HX.out.keep hb);have x0:=HX1.out.cell 0 (v := .slice A g.ids.length k) rfl;have x1:=HX1.out.cell 1 (v := .slice A2 g.ports.length k2) rfl;have xl:=HX1.out.lt;clear hb)
      | (go_at_call 7;refine (aE9 _ g _ (HGV.out _ HB1.out) hlg).mono ?_;rintro e w2 ⟨rfl,hb⟩;rw [hgb];have HB2:=aA0 (HB1.out.trans hb);have HX2:=aA0 (HX1.out.keep hb);clear x0 x1 xl;have x0:=HX2.out.cell 0 (v := .slice A g.ids.length k) rfl;have x1:=HX2.out.cell 1 (v := .slice A2 g.ports.length k2) rfl;have xl:=HX2.out.lt;clear hb)
      | (go_at_call 9;go_must (refine (HPA.out _).mono ?_;rintro e w3 ⟨⟨vp,rfl,hp⟩,hb⟩;have HP:=aA0 (fun w' (k:Bel w3 w')=>hp.keep k);have HB3:=aA0 (HB2.out.trans hb);have HX3:=aA0 (HX2.out.keep hb);clear x0 x1 xl;obtain ⟨A3,k3,A4,k4,rfl,_,_,_,_,_,_⟩:=hp;have HA3:=aA0 ((Bel.refl w3).alloc (.cells #[.string prM.name,.slice A3 prM.vars.length k3,.slice A4 prM.rules.length k4] 31));have HY:=aA0 (Blk.new w3 #[.string prM.name,.slice A3 prM.vars.length k3,.slice A4 prM.rules.length k4] 31);have x0:=HX3.out.cell 0 (v := .slice A g.ids.length k) rfl;have x1:=HX3.out.cell 1 (v := .slice A2 g.ports.length k2) rfl;have xl:=HX3.out.lt;clear hb)))
     have HXd0:=aA0 (HX3.out.keep HA3.out)
     go_quiet (fail)
     have HXd:=aA0 (HXd0.out.keep ((Bel.refl _).drewN nq));have HYd:=aA0 (HY.out.keep ((Bel.refl _).drewN nq));have HPD:=aA0 (HA3.out.drewN nq);have HBD:=aA0 (HB3.out.trans HPD.out);clear x0 x1 xl;have x0:=HXd.out.cell 0 (v := .slice A g.ids.length k) rfl;have x1:=HXd.out.cell 1 (v := .slice A2 g.ports.length k2) rfl;have xl:=HXd.out.lt;have y0:=HYd.out.cell 0 (v := .string prM.name) rfl;have y1:=HYd.out.cell 1 (v := .slice A3 prM.vars.length k3) rfl;have y2:=HYd.out.cell 2 (v := .slice A4 prM.rules.length k4) rfl;have yl:=HYd.out.lt;generalize (w3.alloc (.cells #[.string prM.name,.slice A3 prM.vars.length k3,.slice A4 prM.rules.length k4] 31)).drewN nq=wd at *
     go_wp2_with (first
      | (go_at_call 11;go_must (refine (aP7 _ prM _ g 2 _ _ _ (HP.out _ (HPD.out)) (HGV.out _ HBD.out) (HT.out _ HBD.out) aF6.2.2.2.1 hlg hK.out (by omega) (by omega)).mono ?_;rintro e w5 ⟨rfl,hb⟩;have HC5:=aA0 hb;clear hb;have HX5:=aA0 (HXd.out.keep HC5.out);have HY5:=aA0 (HYd.out.keep HC5.out);(try clear x0 x1 xl);(try clear y0 y1 y2 yl);have x0:=HX5.out.cell 0 (v := .slice A g.ids.length k) rfl;have x1:=HX5.out.cell 1 (v := .slice A2 g.ports.length k2) rfl;have xl:=HX5.out.lt;have y0:=HY5.out.cell 0 (v := .string prM.name) rfl;have y1:=HY5.out.cell 1 (v := .slice A3 prM.vars.length k3) rfl;have y2:=HY5.out.cell 2 (v := .slice A4 prM.rules.length k4) rfl;have yl:=HY5.out.lt))
      | (go_at_call 12;go_must (have hbd:=aHi _ prM _ g 3 _ (HP.out _ (HPD.out.trans HC5.out)) (HGV.out _ (HBD.out.trans HC5.out)) (HT.out _ (HBD.out.trans HC5.out)) aF6.2.2.2.1 hlg hK.out.few;rw [HBD3.out] at hbd;refine hbd.mono ?_;rintro e w6 ⟨v,rfl,hS,hb⟩;have HS6:=aA0 (fun w' (k:Bel w6 w')=>hS.keep k);obtain ⟨AE,cE,AA,cA,rfl,hE,_⟩:=(id hS:aBk _ _ _);have HE6:=aA0 (fun w' (k:Bel w6 w')=>hE.keep k);have HC6:=aA0 (HC5.out.trans hb);have HZ:=aA0 (Blk.new w6 #[.slice AE s.enabled.length cE,.slice AA s.arcs.length cA] 42);have HA6:=aA0 ((Bel.refl w6).alloc (.cells #[.slice AE s.enabled.length cE,.slice AA s.arcs.length cA] 42));have HX6:=aA0 (HXd.out.keep HC6.out);have HY6:=aA0 (HYd.out.keep HC6.out);(try clear x0 x1 xl);(try clear y0 y1 y2 yl);have x0:=HX6.out.cell 0 (v := .slice A g.ids.length k) rfl;have x1:=HX6.out.cell 1 (v := .slice A2 g.ports.length k2) rfl;have xl:=HX6.out.lt;have y0:=HY6.out.cell 0 (v := .string prM.name) rfl;have y1:=HY6.out.cell 1 (v := .slice A3 prM.vars.length k3) rfl;have y2:=HY6.out.cell 2 (v := .slice A4 prM.rules.length k4) rfl;have yl:=HY6.out.lt;clear hS hb hE hbd))
      | (at_make;refine aB7 _ rfl 45 (.tmp 61) (.tmp 61) rfl w6.heap.size 4 j0 (.bool false) 1 underlying45 hj0 hj1 hj2 .i64 .i64 s.enabled.length rfl rfl (by rw [hj3];omega) (by unfold maxLen;omega) (by simp) ?_;intro gr w7 hown hb;rw [aB3 _ rfl] at hown;have HR:=aA0 hown;have HB7:=aA0 (HA6.out.trans hb);have HZ7:=aA0 (HZ.out.keep hb);clear hown hb))
     have hI:MkI w6 w7 s.enabled.length gr (List.replicate s.enabled.length false) w7:=⟨HB7.out,Agr.refl _ _,by rw [List.map_replicate];exact HR.out,by simp⟩
     have hgz:=(aAa HR.out).2;clear HR x0 x1 xl y0 y1 y2 yl
     go_loopg [13] s.enabled.length (fun m z wr=>∃ (i:Nat) (r:List Bool),i<=s.enabled.length/\m=s.enabled.length-i/\z = .int .i64 (i:Int)/\Hid (MkI w6 w7 s.enabled.length gr r wr)/\Hid (Blk wr w6.heap.size #[.slice AE s.enabled.length cE,.slice AA s.arcs.length cA] 42)/\Hid (∀ k,k<s.enabled.length->r.getD k false=if k<i then (aE3 s).getD k false else false))
     case atStart=>exact ⟨0,_,by omega,rfl,rfl,hI,HZ7.out,fun k hk=>by simp [List.getD_eq_getElem?_getD,hk]⟩
     case round =>
      clear hI;obtain ⟨i,r,hi,rfl,rfl,HI,HZr,HC⟩:=hrel;have q0:=HZr.out.cell 0 (v := .slice AE s.enabled.length cE) rfl;have q1:=HZr.out.cell 1 (v := .slice AA s.arcs.length cA) rfl;have ql:=HZr.out.lt
      by_cases hlt:i<s.enabled.length
      .have hd0:decide (i<s.enabled.length)=true:=by simpa using hlt
       obtain ⟨bE,oE,rfl,hbE,e1⟩:=(HE6.out _ HI.out.bel).at_ i hlt;obtain ⟨r1,r2,r3⟩:=HI.out.at_ hlt;have hti:=aA0 (show (aE3 s).getD i false=decide (s.enabled[i]=0) by simp [aE3,List.getD_eq_getElem?_getD,hlt])
       generalize s.enabled[i]=E at *;have hbz:((E:Int)==0)=decide (E=0):=by rw [Bool.eq_iff_iff];simp
       generalize decide (E=0)=bz at *;generalize r.getD i false=old at *
       go_wp2_with fail
       go_roundg (s.enabled.length-(i+1))
       case rel =>
        refine ⟨i+1,r.set i bz,by omega,rfl,by go_num,HI.out.put i bz,HZr.out.other (a:=⟨gr,i,none⟩) (fun e=>HZr.out.apart HI.out.res (by decide) (by rw [e];rfl)) _,fun j hj=>?_⟩
        rw [aPu _ _ _ _ (by rw [HI.out.len];exact hlt),HC.out j hj]
        by_cases e:i=j
        .subst e;rw [if_pos rfl,if_pos (by omega),hti.out]
        .rw [if_neg e]
         by_cases h2:j<i
         .rw [if_pos h2,if_pos (by omega)]
         .rw [if_neg h2,if_neg (by omega)]
       case measure=>omega
      .obtain rfl:i=s.enabled.length:=by omega
       have hd0:decide (s.enabled.length<s.enabled.length)=false:=by simp
       have hrl:r=aE3 s:=by
        apply List.ext_getElem (by rw [HI.out.len,aN8])
        intro j h1 h2
        have:=HC.out j (by rw [<- HI.out.len];exact h1)
        rw [if_pos (by rw [<- HI.out.len];exact h1)] at this
        simpa [List.getD_eq_getElem?_getD,h1,h2] using this
       subst hrl
       go_upto_region 15 with fail
       have HEN:=aA0 (aBv HVA.out).1;have HSB:=aA0 (aGr (l:=aE3 s) (aMz HI.out.res HEN.out.symm));have HBR:=aA0 HI.out.bel;have HGG:=aA0 (HBD.out.trans (HC6.out.trans HI.out.bel));have hle2:s.arcs.length<=700:=by have:=HEN.out;omega
       have hpos:1<=s.enabled.length:=by
        have:=HVA.out;unfold aCf at this;simp only [Bool.and_eq_true,decide_eq_true_eq] at this
        exact this.1.1
       have hpos2:decide (0<s.arcs.length)=true:=by have:=HEN.out;simp;omega
       have xb:=HX6.out.keep HBR.out;have x0:=xb.cell 0 (v := .slice A g.ids.length k) rfl;have x1:=xb.cell 1 (v := .slice A2 g.ports.length k2) rfl;have xl:=xb.lt;have XB:=aA0 xb;clear HI HC hpos xb;rw [show s.enabled.length=s.arcs.length from HEN.out.symm]
       go_wp2_with (first
        | (go_at_call 13;go_must (refine (bCc _ s _ _ (aE3 s) _ (HS6.out _ HBR.out) HSB.out HLS.out HWF.out HVA.out).mono ?_;rintro e w8 ⟨o,rc,gc,rfl,ho,hrc,hck,hown,hb⟩;have HO:=aA0 ho;have HCK:=aA0 hck;have HOC:=aA0 hown;have HB8:=aA0 hb;clear x0 x1 xl;have x0:=(XB.out.keep hb).cell 0 (v := .slice A g.ids.length k) rfl;have x1:=(XB.out.keep hb).cell 1 (v := .slice A2 g.ports.length k2) rfl;have xl:=(XB.out.keep hb).lt;clear ho hck hown hb))
        | (go_at_call 10;go_must (refine (bDi _ g _ (HGV.out _ (HGG.out.trans HB8.out)) hlg HGK.out).mono ?_;rintro e w9 ⟨rfl,hb⟩;rw [<- HM.out];have HB9:=aA0 (HB8.out.trans hb);have HB98:=aA0 hb;clear hb))
        | (go_at_call 8;go_must (refine (aE4 _ (HT.out _ (HGG.out.trans HB9.out))).mono ?_;rintro e w10 ⟨rfl,hb⟩;have HB10:=aA0 (HB9.out.trans hb);have HB108:=aA0 (HB98.out.trans hb);clear hb))
        | (go_at_call 14;go_must (refine (bC2 _ _ _ rc _ (aGr (HB108.out.owns HOC.out)) (by omega)).mono ?_;rintro e w11 ⟨rfl,hb⟩;rw [aSs HCO.out HO.out hrc HCK.out];have HB11:=aA0 (HB10.out.trans hb);clear hb)))
       go_ret;exact ⟨rfl,HGG.out.trans HB11.out⟩
end Go.Proofs.YtmoebklkkjbigaaGreatDoor

