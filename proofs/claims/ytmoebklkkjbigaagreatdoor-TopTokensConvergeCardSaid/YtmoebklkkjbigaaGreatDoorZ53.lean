/- Merged. -/
import Derived.Test.YtmoebklkkjbigaaGreatDoorZ45
import Derived.Test.YtmoebklkkjbigaaGreatDoorZ43
import Derived.Test.YtmoebklkkjbigaaGreatDoorZ47
import Derived.Test.YtmoebklkkjbigaaGreatDoorZ40
set_option linter.unusedSimpArgs false
set_option linter.unnecessarySimpa false
set_option linter.unusedVariables false
set_option maxRecDepth 100000
set_option maxHeartbeats 8000000
open Go.Proofs.Tryz

namespace Go.Proofs.YtmoebklkkjbigaaGreatDoor
open Go.RowKit
theorem aV6 (s:Spc):(aLu s).length=s.enabled.length:=by simp [aLu]
theorem aYk {s:Spc} {k:Nat} (hk:k<s.enabled.length):(aLu s).take (k+1)=(aLu s).take k++[decide ((aAd s.enabled[k]).length=1)]:=by
 rw [List.take_succ_eq_append_getElem (by rw [aV6];exact hk)]
 simp [aLu]
theorem aJ2 (four:Bool) (kind:Int) (w:World) (hT:aDl w) :
  Calls prog 5 #[.bool four,.int .i64 kind] w fun e w'=>e = .returned (.bool true)/\Bel w w':=by
 have HT:=aA0 (fun w' (k:Bel w w')=>hT.keep k);clear hT;have HPA:=aA0 (fun w0:World=>aRh (ba txK) tkK prK w0 aE0.1 bPx bPs aE0.2.1 aE0.2.2.1 aE0.2.2.2.1 aE0.2.2.2.2);obtain ⟨mk,hmk⟩:∃ m,m=bPj kind 4:=⟨_,rfl⟩;have hm0:0<=mk:=by rw [hmk];exact Int.emod_nonneg _ (by decide)
 have hm1:mk<4:=by rw [hmk];exact Int.emod_lt_of_pos _ (by decide)
 have hkb:aF1 (1+mk)=true:=by unfold aF1;rw [Bool.and_eq_true,decide_eq_true_iff,decide_eq_true_iff];omega
 have ew:IntKind.i64.wrap (1+mk)=1+mk:=IntWalk.i64_in _ (by omega)
 have HMO:Hid (bPj kind 4=mk):=hmk.symm;clear hmk;obtain ⟨j0,hj0,hj1,hj2,hj3⟩:=aBq aK7;cases four with
 | false =>
  obtain ⟨g,hge⟩:∃ g,g=aBe 3:=⟨_,rfl⟩;have HRG:Hid (∀ w,Calls prog 15 #[.int .i64 3] w fun e w'=>∃ v,e = .returned (.tuple #[v,.int .i64 0])/\aB2 w' v g/\Bel w w'):=by rw [hge];exact fun w=>bDa 3 (by decide) (by decide) w
  obtain ⟨hfew,s,f,G,fr,hbd,hls,hwf,hva,h16,hne,hclo,hall,hc1,hc2,hfm,hr,hfr⟩:=bBo hkb;rw [<- hge] at hbd hfew;have HGL:Hid (aBt g=true):=by rw [hge];exact bBf
  have HFW:=aA0 hfew;have HBD:=aA0 hbd;have HLS:=aA0 hls;have HWF:=aA0 hwf;have HVA:=aA0 hva;have HEN:=aA0 (aBv hva).1;have H16:=aA0 h16;have HNE:=aA0 hne;have HCLO:=aA0 hclo;have HALL:=aA0 hall;have HC1:=aA0 hc1;have HC2:=aA0 hc2;have HFM:=aA0 hfm;have HR:=aA0 hr;have HFR:=aA0 hfr;have hle:=(aB5 hls).1;clear hfew hbd hls hwf hva h16 hne hclo hall hc1 hc2 hfm hr hfr hge hkb;go_enter func5,ntmps5
  go_upto_region 6 with (first
   | (go_at_call 9;go_must (refine (HPA.out _).mono ?_;rintro e w1 ⟨⟨vp,rfl,hp⟩,hb⟩;have HP1:=aA0 (fun w' (k:Bel w1 w')=>hp.keep k);have HB1:=aA0 hb;obtain ⟨A1,k1,A2,k2,rfl,_,_,_,_,_,_⟩:=hp;have HA1:=aA0 ((Bel.refl w1).alloc (.cells #[.string prK.name,.slice A1 prK.vars.length k1,.slice A2 prK.rules.length k2] 31));have HY:=aA0 (Blk.new w1 #[.string prK.name,.slice A1 prK.vars.length k1,.slice A2 prK.rules.length k2] 31);clear hb))
   | (go_at_call 15;go_must (refine (HRG.out _).mono ?_;rintro e w2 ⟨vg,rfl,hg,hb⟩;have HG2:=aA0 (fun w' (k:Bel w2 w')=>hg.keep k);have HB2:=aA0 (HA1.out.trans hb);have HY2:=aA0 (HY.out.keep hb);obtain ⟨A3,k3,A4,k4,rfl,_,_,_,_,_,_⟩:=hg;have HA2:=aA0 ((Bel.refl w2).alloc (.cells #[.slice A3 g.ids.length k3,.slice A4 g.ports.length k4] 25));have HZ:=aA0 (Blk.new w2 #[.slice A3 g.ids.length k3,.slice A4 g.ports.length k4] 25);clear hb)))
  have HYd:=aA0 (HY2.out.keep HA2.out);have HBd:=aA0 (HB1.out.trans (HB2.out.trans HA2.out));have HP:=aA0 (fun w' (k:Bel _ w')=>HP1.out w' (HB2.out.trans (HA2.out.trans k)));have HG:=aA0 (fun w' (k:Bel _ w')=>HG2.out w' (HA2.out.trans k));clear HY HA1 HY2 HP1 HG2 HB1 HB2 HA2;generalize w2.alloc (.cells #[.slice A3 g.ids.length k3,.slice A4 g.ports.length k4] 25)=Wd at *;generalize w1.heap.size=gP at *;generalize w2.heap.size=gG at *;have hcell:Hid (∀ w',Bel Wd w'->(fun w'=>w'.cell? ⟨gP,0,none⟩=some (.string prK.name)/\w'.cell? ⟨gP,1,none⟩=some (.slice A1 prK.vars.length k1)/\w'.cell? ⟨gP,2,none⟩=some (.slice A2 prK.rules.length k2)/\gP<w'.heap.size/\w'.cell? ⟨gG,0,none⟩=some (.slice A3 g.ids.length k3)/\w'.cell? ⟨gG,1,none⟩=some (.slice A4 g.ports.length k4)/\gG<w'.heap.size) w'):=fun w' k=>have a:=HYd.out.keep k;have b:=HZ.out.keep k;⟨a.cell 0 rfl,a.cell 1 rfl,a.cell 2 rfl,a.lt,b.cell 0 rfl,b.cell 1 rfl,b.lt⟩;replace HT:=aA0 (fun w' (k:Bel Wd w')=>HT.out w' (HBd.out.trans k))
  go_cut [11,12] (fun pv ev wc=>∃ (AE:Option Addr) (cE:Nat) (AA:Option Addr) (cA bS:Nat),pv = .pointer (some ⟨bS,0,none⟩)/\ev = .int .i64 0/\Hid (Blk wc bS #[.slice AE s.enabled.length cE,.slice AA s.arcs.length cA] 42)/\Hid (∀ W,Bel wc W->aBk W (.agg #[.slice AE s.enabled.length cE,.slice AA s.arcs.length cA]) s)/\Hid (Bel Wd wc))
  case first =>
   refine aA4.start (fun w'=>w'.cell? ⟨gP,0,none⟩=some (.string prK.name)/\w'.cell? ⟨gP,1,none⟩=some (.slice A1 prK.vars.length k1)/\w'.cell? ⟨gP,2,none⟩=some (.slice A2 prK.rules.length k2)/\gP<w'.heap.size/\w'.cell? ⟨gG,0,none⟩=some (.slice A3 g.ids.length k3)/\w'.cell? ⟨gG,1,none⟩=some (.slice A4 g.ports.length k4)/\gG<w'.heap.size) 11 (by kernel_rfl) ?_
   have HB:=(Bel.refl Wd).drew;have HB0:=aA0 (Bel.refl Wd);have hHeld:=hcell.out _ HB
   (refine aA4.u (v:=?_) 0 34 rfl hHeld ?_ ?_;rotate_left 1;focus (intro w' hSw;(try dsimp only at hSw);go_simp;(try with_reducible rfl);done));(refine aA4.u (v:=?_) 1 35 rfl hHeld ?_ ?_;rotate_left 1;focus (intro w' hSw;(try dsimp only at hSw);go_simp;(try with_reducible rfl);done));(refine aA4.u (v:=?_) 2 36 rfl hHeld ?_ ?_;rotate_left 1;focus (intro w' hSw;(try dsimp only at hSw);go_simp;(try with_reducible rfl);done))
   refine aA4.two (i:=3) (j:=9) (by kernel_rfl) rfl rfl (fun K hK=>?_) (fun K hK=>?_)
   .go_simp
    go_at_call 16
    refine (aUv kind 4 _ (by decide) (by decide)).mono ?_
    rintro e w9 ⟨rfl,rfl⟩;rw [HMO.out];refine hK.out _ _ (fun _=>hcell.out _ (HB)) ?_
    clear hK K
    (try clear hHeld)
    (try simp only [Act.put,List.setIfInBounds_toArray,List.set_cons_zero,List.set_cons_succ])
    have hHeld:=hcell.out _ (HB)
    (refine aA4.u (v:=?_) 4 38 rfl hHeld ?_ ?_;rotate_left 1;focus (intro w' hSw;(try dsimp only at hSw);go_simp;(try with_reducible rfl);done))
    refine aA4.two (i:=5) (j:=9) (by kernel_rfl) rfl rfl (fun K hK=>?_) (fun K hK=>?_)
    .go_simp
     go_at_call 12
     have hbd:=aCe _ prK _ g (1+mk) _ (HP.out _ HB) (HG.out _ HB) (HT.out _ HB) aE0.2.2.2.1 HGL.out HFW.out;rw [HBD.out] at hbd;refine hbd.mono ?_
     rintro e w6 ⟨v,rfl,hS,hb⟩;obtain ⟨AE,cE,AA,cA,rfl,_,_,_,_,_,_⟩:=(id hS.now:aBk _ _ _);have HS:=aA0 hS;replace HB:=HB.trans hb;clear hb
     (try go_simp)
     refine hK.out _ _ (fun _=>hcell.out _ (HB)) ?_
     clear hK K
     (try clear hHeld)
     (try simp only [Act.put,List.setIfInBounds_toArray,List.set_cons_zero,List.set_cons_succ])
     have hHeld:=hcell.out _ (HB)
     (refine aA4.u (v:=?_) 6 33 rfl hHeld ?_ ?_;rotate_left 1;focus (intro w' hSw;(try dsimp only at hSw);go_simp;(try with_reducible rfl);done))
     (refine aA4.u (v:=?_) 7 40 rfl hHeld ?_ ?_;rotate_left 1;focus (intro w' hSw;(try dsimp only at hSw);go_simp;(try with_reducible rfl);done))
     (refine aA4.u (v:=?_) 8 41 rfl hHeld ?_ ?_;rotate_left 1;focus (intro w' hSw;(try dsimp only at hSw);go_simp;(try with_reducible rfl);done))
     refine aA4.one (i:=9) (by kernel_rfl) rfl (fun K hK=>?_)
     go_simp
     refine hK.out _ _ (fun _=>hcell.out _ (HB.alloc _)) ?_
     clear hK K
     (try clear hHeld)
     (try simp only [Act.put,List.setIfInBounds_toArray,List.set_cons_zero,List.set_cons_succ])
     refine aA4.one (i:=10) (by kernel_rfl) rfl (fun K hK=>?_)
     go_simp
     refine hK.out _ _ (fun _=>hcell.out _ (HB.alloc _)) ?_
     clear hK K
     (try clear hHeld)
     (try simp only [Act.put,List.setIfInBounds_toArray,List.set_cons_zero,List.set_cons_succ])
     refine aA4.one (i:=11) (by kernel_rfl) rfl (fun K hK=>?_)
     go_simp
     refine hK.out _ _ (fun h=>absurd rfl h) ?_
     clear hK K
     (try clear hHeld)
     refine aA4.done (by kernel_rfl) ?_ _
     go_wp2_with fail
     go_meet
     exact ⟨_,_,_,_,_,rfl,rfl,Blk.new _ _ _,fun W k=>hS.now.keep (((Bel.refl w6).alloc _).trans k),HB.alloc _⟩
    .go_simp
     refine hK.out _ _ (fun _=>hcell.out _ (HB.alloc _)) ?_
     clear hK K
     (try clear hHeld)
     (try simp only [Act.put,List.setIfInBounds_toArray,List.set_cons_zero,List.set_cons_succ])
     have HZB:=aA0 ((Blk.new Wd #[.slice none 0 0,.slice none 0 0] 42).drew);replace HB:=(HB0.out.alloc (.cells #[.slice none 0 0,.slice none 0 0] 42)).drew;have hVs:=HZB.out.lt;generalize (Wd.alloc (.cells #[.slice none 0 0,.slice none 0 0] 42)).drew=V at *;generalize hbzE:Wd.heap.size=bz at HZB hVs ⊢;have hbz:Wd.heap.size<=bz:=Nat.le_of_eq hbzE;clear hbzE;have hHeld:=hcell.out _ HB;refine aA4.one (i:=5) (by kernel_rfl) rfl (fun K hK=>?_)
     go_simp
     go_at_call 12
     have hbd:=aCe _ prK _ g (1+mk) _ (HP.out _ HB) (HG.out _ HB) (HT.out _ HB) aE0.2.2.2.1 HGL.out HFW.out;rw [HBD.out] at hbd;refine hbd.mono ?_
     rintro e w6 ⟨v,rfl,hS,hb⟩;obtain ⟨AE,cE,AA,cA,rfl,_,_,_,_,_,_⟩:=(id hS.now:aBk _ _ _);have HS:=aA0 hS;replace HB:=HB.trans hb;replace HZB:=aA0 (HZB.out.keep hb);clear hb
     (try go_simp)
     refine hK.out _ _ (fun _=>hcell.out _ (HB)) ?_
     clear hK K
     (try clear hHeld)
     (try simp only [Act.put,List.setIfInBounds_toArray,List.set_cons_zero,List.set_cons_succ])
     have hHeld:=hcell.out _ (HB)
     (refine aA4.u (v:=?_) 6 33 rfl hHeld ?_ ?_;rotate_left 1;focus (intro w' hSw;(try dsimp only at hSw);go_simp;(try with_reducible rfl);done))
     (refine aA4.u (v:=?_) 7 40 rfl hHeld ?_ ?_;rotate_left 1;focus (intro w' hSw;(try dsimp only at hSw);go_simp;(try with_reducible rfl);done))
     (refine aA4.u (v:=?_) 8 41 rfl hHeld ?_ ?_;rotate_left 1;focus (intro w' hSw;(try dsimp only at hSw);go_simp;(try with_reducible rfl);done))
     have z0:=HZB.out.cell 0 (v := .slice none 0 0) rfl;have z1:=HZB.out.cell 1 (v := .slice none 0 0) rfl;have zf0:=HZB.out.frozen 0;have zf1:=HZB.out.frozen 1;have zl:=HZB.out.lt;refine aA4.one (i:=10) (by kernel_rfl) rfl (fun K hK=>?_)
     go_simp
     refine hK.out _ _ (fun _=>hcell.out _ ((HB.setCell (p:=⟨bz,0,none⟩) hbz _).setCell (p:=⟨bz,1,none⟩) hbz _)) ?_
     clear hK K
     (try clear hHeld)
     (try simp only [Act.put,List.setIfInBounds_toArray,List.set_cons_zero,List.set_cons_succ])
     refine aA4.one (i:=11) (by kernel_rfl) rfl (fun K hK=>?_)
     go_simp
     refine hK.out _ _ (fun h=>absurd rfl h) ?_
     clear hK K
     (try clear hHeld)
     refine aA4.done (by kernel_rfl) ?_ _
     go_wp2_with fail
     go_meet
     exact ⟨_,_,_,_,_,rfl,rfl,(HZB.out.set 0 _).set 1 _,fun W k=>hS W (((Agr.setCell (E:=fun q=>q<V.heap.size) w6 ⟨bz,0,none⟩ _ hVs).trans (Agr.setCell (E:=fun q=>q<V.heap.size) _ ⟨bz,1,none⟩ _ hVs)).trans (Agr.of_belM k)),(HB.setCell (p:=⟨bz,0,none⟩) hbz _).setCell (p:=⟨bz,1,none⟩) hbz _⟩
   .go_simp
    refine hK.out _ _ (fun _=>hcell.out _ (HB.alloc _)) ?_
    clear hK K
    (try clear hHeld)
    (try simp only [Act.put,List.setIfInBounds_toArray,List.set_cons_zero,List.set_cons_succ])
    have HZB:=aA0 ((Blk.new Wd #[.slice none 0 0,.slice none 0 0] 42).drew);replace HB:=(HB0.out.alloc (.cells #[.slice none 0 0,.slice none 0 0] 42)).drew;have hVs:=HZB.out.lt;generalize (Wd.alloc (.cells #[.slice none 0 0,.slice none 0 0] 42)).drew=V at *;generalize hbzE:Wd.heap.size=bz at HZB hVs ⊢;have hbz:Wd.heap.size<=bz:=Nat.le_of_eq hbzE;clear hbzE;have hHeld:=hcell.out _ HB;refine aA4.one (i:=3) (by kernel_rfl) rfl (fun K hK=>?_)
    go_simp
    go_at_call 16
    refine (aUv kind 4 _ (by decide) (by decide)).mono ?_
    rintro e w9 ⟨rfl,rfl⟩;rw [HMO.out];refine hK.out _ _ (fun _=>hcell.out _ (HB)) ?_
    clear hK K
    (try clear hHeld)
    (try simp only [Act.put,List.setIfInBounds_toArray,List.set_cons_zero,List.set_cons_succ])
    have hHeld:=hcell.out _ (HB)
    (refine aA4.u (v:=?_) 4 38 rfl hHeld ?_ ?_;rotate_left 1;focus (intro w' hSw;(try dsimp only at hSw);go_simp;(try with_reducible rfl);done))
    refine aA4.one (i:=5) (by kernel_rfl) rfl (fun K hK=>?_)
    go_simp
    go_at_call 12
    have hbd:=aCe _ prK _ g (1+mk) _ (HP.out _ HB) (HG.out _ HB) (HT.out _ HB) aE0.2.2.2.1 HGL.out HFW.out;rw [HBD.out] at hbd;refine hbd.mono ?_
    rintro e w6 ⟨v,rfl,hS,hb⟩;obtain ⟨AE,cE,AA,cA,rfl,_,_,_,_,_,_⟩:=(id hS.now:aBk _ _ _);have HS:=aA0 hS;replace HB:=HB.trans hb;replace HZB:=aA0 (HZB.out.keep hb);clear hb
    (try go_simp)
    refine hK.out _ _ (fun _=>hcell.out _ (HB)) ?_
    clear hK K
    (try clear hHeld)
    (try simp only [Act.put,List.setIfInBounds_toArray,List.set_cons_zero,List.set_cons_succ])
    have hHeld:=hcell.out _ (HB)
    (refine aA4.u (v:=?_) 6 33 rfl hHeld ?_ ?_;rotate_left 1;focus (intro w' hSw;(try dsimp only at hSw);go_simp;(try with_reducible rfl);done))
    (refine aA4.u (v:=?_) 7 40 rfl hHeld ?_ ?_;rotate_left 1;focus (intro w' hSw;(try dsimp only at hSw);go_simp;(try with_reducible rfl);done))
    (refine aA4.u (v:=?_) 8 41 rfl hHeld ?_ ?_;rotate_left 1;focus (intro w' hSw;(try dsimp only at hSw);go_simp;(try with_reducible rfl);done))
    have z0:=HZB.out.cell 0 (v := .slice none 0 0) rfl;have z1:=HZB.out.cell 1 (v := .slice none 0 0) rfl;have zf0:=HZB.out.frozen 0;have zf1:=HZB.out.frozen 1;have zl:=HZB.out.lt;refine aA4.one (i:=10) (by kernel_rfl) rfl (fun K hK=>?_)
    go_simp
    refine hK.out _ _ (fun _=>hcell.out _ ((HB.setCell (p:=⟨bz,0,none⟩) hbz _).setCell (p:=⟨bz,1,none⟩) hbz _)) ?_
    clear hK K
    (try clear hHeld)
    (try simp only [Act.put,List.setIfInBounds_toArray,List.set_cons_zero,List.set_cons_succ])
    refine aA4.one (i:=11) (by kernel_rfl) rfl (fun K hK=>?_)
    go_simp
    refine hK.out _ _ (fun h=>absurd rfl h) ?_
    clear hK K
    (try clear hHeld)
    refine aA4.done (by kernel_rfl) ?_ _
    go_wp2_with fail
    go_meet
    exact ⟨_,_,_,_,_,rfl,rfl,(HZB.out.set 0 _).set 1 _,fun W k=>hS W (((Agr.setCell (E:=fun q=>q<V.heap.size) w6 ⟨bz,0,none⟩ _ hVs).trans (Agr.setCell (E:=fun q=>q<V.heap.size) _ ⟨bz,1,none⟩ _ hVs)).trans (Agr.of_belM k)),(HB.setCell (p:=⟨bz,0,none⟩) hbz _).setCell (p:=⟨bz,1,none⟩) hbz _⟩
  case rest =>
  obtain ⟨AE,cE,AA,cA,bS,rfl,rfl,HSB,HSV,HBW⟩:=hcut;have x0:=HSB.out.cell 0 (v := .slice AE s.enabled.length cE) rfl;have x1:=HSB.out.cell 1 (v := .slice AA s.arcs.length cA) rfl;have xl:=HSB.out.lt
  go_wp2_with (go_at_call 17;refine (aFl _ s _ (HSV.out _ (Bel.refl _)) HWF.out HLS.out).mono ?_;rintro e wv ⟨rfl,hb⟩;rw [HVA.out];have HBV:=aA0 hb;have HSB2:=aA0 (HSB.out.keep hb);clear hb)
  clear x0 x1 xl
  have HE:Hid (∀ W,Bel wc W->aBw W AE s.enabled.length s.enabled):=fun W k=>by
   obtain ⟨AE',cE',AA',cA',e9,hE9,_⟩:=HSV.out W k;have e8:AE=AE':=by simp at e9;exact e9.1.1
   rw [e8];exact hE9
  go_loopg [13,14] s.enabled.length (fun m y z wr=>∃ (k:Nat) (A:Option Addr) (c:Nat),k<=s.enabled.length/\m=s.enabled.length-k/\y = .slice A k c/\z = .int .i64 (k:Int)/\Hid (wr.ownsRow wv.heap.size 4 1 (.slice A k c) k (((aLu s).take k).map Value.bool))/\Hid (Bel wv wr))
  case atStart=>exact ⟨0,none,0,by omega,rfl,rfl,rfl,World.ownsRow_nil _ _ _ _,Bel.refl _⟩
  case round =>
   obtain ⟨k,A,c,hk,rfl,rfl,rfl,HO,HB⟩:=hrel;have x0:=(HSB2.out.keep HB.out).cell 0 (v := .slice AE s.enabled.length cE) rfl;have xl:=(HSB2.out.keep HB.out).lt
   by_cases hlt:k<s.enabled.length
   .have hd0:decide (k<s.enabled.length)=true:=by simpa using hlt
    obtain ⟨bE,oE,rfl,hbE,e1⟩:=(HE.out _ (HBV.out.trans HB.out)).at_ k hlt;have HTS:=aA0 (aYk hlt);have hE0:=HNE.out k (by have:=HEN.out;omega)
    have hE16:=H16.out k;rw [List.getD_eq_getElem?_getD,List.getElem?_eq_getElem hlt,Option.getD_some] at hE0 hE16;generalize s.enabled[k]=E at *;have hbz:((E:Int)==0)=false:=by simpa using hE0
    have HE32:Hid (E<4294967296):=by show E<_;omega
    clear hE0 hE16;obtain ⟨cn,hcn⟩:∃ cn,cn=(aAd E).length:=⟨_,rfl⟩;rw [<- hcn] at HTS;have HCN:=aA0 hcn;clear hcn;have hb1:((cn:Int)==1)=decide (cn=1):=by rw [Bool.eq_iff_iff];simp;omega
    generalize decide (cn=1)=bz at *;have hwr:=HB.out.size
    go_wp2_with (first
     | (go_at_call 18;refine (aJt E _ HE32.out).mono ?_;rintro e w9 ⟨rfl,rfl⟩;rw [<- HCN.out])
     | (at_builtin;refine aBr _ rfl (.tmp 70) (.tmp 78) 45 rfl wv.heap.size 4 j0 (.bool false) 1 1 underlying45 hj0 hj1 hj2 hj3 rfl (by decide) A k c (((aLu s).take k).map Value.bool) (by simp [Act.eval]) (HO.out.alloc _) wr.heap.size #[.bool bz] 4 (0,0) (by simp [Act.eval]) (aAx _ _) rfl (aV7 _) (by unfold maxLen;omega) (by omega) (by simp;omega) ?_;intro A2 c2 w4 hown hgr hat;have HN:=aA0 hown;have HB4:=aA0 ((HB.out.alloc (.cells #[.bool bz] 4)).push (HO.out.alloc _) hgr);clear hown hgr hat))
    go_roundg (s.enabled.length-(k+1))
    case rel=>exact ⟨k+1,A2,c2,by omega,rfl,rfl,by go_num,by rw [HTS.out,List.map_append];exact HN.out,HB4.out⟩
    case measure=>omega
   .obtain rfl:k=s.enabled.length:=by omega
    have hd0:decide (s.enabled.length<s.enabled.length)=false:=by simp
    have HLG:=aA0 (fun w' (kk:Bel wr w')=>aGr (l:=aLu s) (aMz (kk.owns (show wr.ownsRow wv.heap.size 4 1 (.slice A s.enabled.length c) s.enabled.length ((aLu s).map Value.bool) from by have:=HO.out;rwa [List.take_of_length_le (by rw [aV6];omega)] at this)) HEN.out.symm))
    have HBr:=aA0 (HBV.out.trans HB.out);clear HO
    go_upto_region 16 with fail
    rw [show s.enabled.length=s.arcs.length from HEN.out.symm] at x0 ⊢
    have HXr:Hid (Blk wr bS #[.slice AE s.arcs.length cE,.slice AA s.arcs.length cA] 42):=by have:=HSB2.out.keep HB.out;rwa [show s.enabled.length=s.arcs.length from HEN.out.symm] at this
    have HSr:Hid (∀ W,Bel wr W->aBk W (.agg #[.slice AE s.arcs.length cE,.slice AA s.arcs.length cA]) s):=fun W kk=>by have:=HSV.out W (HBr.out.trans kk);rwa [show s.enabled.length=s.arcs.length from HEN.out.symm] at this
    have x1:=HXr.out.cell 1 (v := .slice AA s.arcs.length cA) rfl
    go_wp2_with (first
     | (go_at_call 19;go_must (refine (aSp _ s A c (aLu s) _ (HSr.out _ (Bel.refl _)) (HLG.out _ (Bel.refl wr)) HLS.out HWF.out HVA.out HCLO.out).mono ?_;rintro e w3 ⟨rfl,hb⟩;have HB3:=aA0 hb;clear x0 x1 xl;have x0:=(HXr.out.keep hb).cell 0 (v := .slice AE s.arcs.length cE) rfl;have x1:=(HXr.out.keep hb).cell 1 (v := .slice AA s.arcs.length cA) rfl;have xl:=(HXr.out.keep hb).lt;clear hb))
     | (go_at_call 20;go_must (refine (aLa _ s A c (aLu s) _ (HSr.out _ HB3.out) (HLG.out _ HB3.out) HLS.out HWF.out HVA.out HALL.out f HC1.out HC2.out G fr H16.out HR.out).mono ?_;rintro e w5 ⟨A0,c0,r1,A5,c5,r2,A6,c6,rfl,hr1,hr2,hb1,hb2,ho1,ho2,hb⟩;have HB5:=aA0 (HB3.out.trans hb);have HR1:=aA0 hr1;have HR2:=aA0 hr2;have HN1:=aA0 hb1;have HN2:=aA0 hb2;have HO1:=aA0 ho1;have HO2:=aA0 ho2;clear hr1 hr2 hb1 hb2 ho1 ho2 hb)))
    have hle2:s.arcs.length<=700:=by have:=HEN.out;omega
    have hI:Bel w5 w5:=Bel.refl w5;clear x0 x1 xl
    go_loopg [21] s.arcs.length (fun m z wr=>∃ k:Nat,k<=s.arcs.length/\m=s.arcs.length-k/\z = .int .i64 (k:Int)/\Hid (Bel w5 wr))
    case atStart=>exact ⟨0,by omega,rfl,rfl,hI⟩
    case round =>
     clear hI;obtain ⟨k,hk,rfl,rfl,HC⟩:=hrel
     by_cases hlt:k<s.arcs.length
     .have hd1:decide (k<s.arcs.length)=true:=by simpa using hlt
      obtain ⟨g1,rfl,_,l1,c1,_⟩:=aAj (HC.out.owns HO1.out) (j:=k) (u := .int .i64 (r1.getD k 0)) (by simp [List.getD_eq_getElem?_getD,HR1.out,hlt])
      obtain ⟨g2,rfl,_,l2,c2,_⟩:=aAj (HC.out.owns HO2.out) (j:=k) (u := .int .i64 (r2.getD k 0)) (by simp [List.getD_eq_getElem?_getD,HR2.out,hlt])
      have h1:=HN1.out k hlt;have h2:=HN2.out k hlt;have h3:=HFM.out k hlt
      have h4:r2.getD k 0<=12:=by
       cases hc:(aLu s).getD k false with
       | true=>rw [hc,if_pos rfl] at h2;omega
       | false=>rw [hc,if_neg (by decide)] at h2;have:=HFR.out k hlt hc;omega
      generalize r1.getD k 0=z1 at *;generalize r2.getD k 0=z2 at *;have d3:decide (12<z1)=false:=by simp;omega
      have d4:decide (12<z2)=false:=by simp;omega
      clear h1 h2 h3 h4
      go_wp2_with fail
      go_roundg (s.arcs.length-(k+1))
      case rel=>exact ⟨k+1,by omega,rfl,by go_num,HC.out⟩
      case measure=>omega
     .obtain rfl:k=s.arcs.length:=by omega
      have hd1:decide (s.arcs.length<s.arcs.length)=false:=by simp
      have HBZ:=aA0 (HBd.out.trans (HBW.out.trans (HBr.out.trans (HB5.out.trans HC.out))))
      go_wp2_with (go_at_call 8;refine (aE4 _ (HT.out _ (HBW.out.trans (HBr.out.trans (HB5.out.trans HC.out))))).mono ?_;rintro e w7 ⟨rfl,hb⟩;have HB7:=aA0 (HBZ.out.trans hb);clear hb)
      go_ret;exact ⟨rfl,HB7.out⟩
 | true =>
  obtain ⟨g,hge⟩:∃ g,g=aBe 4:=⟨_,rfl⟩;have HRG:Hid (∀ w,Calls prog 15 #[.int .i64 4] w fun e w'=>∃ v,e = .returned (.tuple #[v,.int .i64 0])/\aB2 w' v g/\Bel w w'):=by rw [hge];exact fun w=>bDa 4 (by decide) (by decide) w
  obtain ⟨hfew,s,f,G,fr,hbd,hls,hwf,hva,h16,hne,hclo,hall,hc1,hc2,hfm,hr,hfr⟩:=bBp hkb;rw [<- hge] at hbd hfew;have HGL:Hid (aBt g=true):=by rw [hge];exact bBg
  have HFW:=aA0 hfew;have HBD:=aA0 hbd;have HLS:=aA0 hls;have HWF:=aA0 hwf;have HVA:=aA0 hva;have HEN:=aA0 (aBv hva).1;have H16:=aA0 h16;have HNE:=aA0 hne;have HCLO:=aA0 hclo;have HALL:=aA0 hall;have HC1:=aA0 hc1;have HC2:=aA0 hc2;have HFM:=aA0 hfm;have HR:=aA0 hr;have HFR:=aA0 hfr;have hle:=(aB5 hls).1;clear hfew hbd hls hwf hva h16 hne hclo hall hc1 hc2 hfm hr hfr hge hkb;go_enter func5,ntmps5
  go_upto_region 6 with (first
   | (go_at_call 9;go_must (refine (HPA.out _).mono ?_;rintro e w1 ⟨⟨vp,rfl,hp⟩,hb⟩;have HP1:=aA0 (fun w' (k:Bel w1 w')=>hp.keep k);have HB1:=aA0 hb;obtain ⟨A1,k1,A2,k2,rfl,_,_,_,_,_,_⟩:=hp;have HA1:=aA0 ((Bel.refl w1).alloc (.cells #[.string prK.name,.slice A1 prK.vars.length k1,.slice A2 prK.rules.length k2] 31));have HY:=aA0 (Blk.new w1 #[.string prK.name,.slice A1 prK.vars.length k1,.slice A2 prK.rules.length k2] 31);clear hb))
   | (go_at_call 15;go_must (refine (HRG.out _).mono ?_;rintro e w2 ⟨vg,rfl,hg,hb⟩;have HG2:=aA0 (fun w' (k:Bel w2 w')=>hg.keep k);have HB2:=aA0 (HA1.out.trans hb);have HY2:=aA0 (HY.out.keep hb);obtain ⟨A3,k3,A4,k4,rfl,_,_,_,_,_,_⟩:=hg;have HA2:=aA0 ((Bel.refl w2).alloc (.cells #[.slice A3 g.ids.length k3,.slice A4 g.ports.length k4] 25));have HZ:=aA0 (Blk.new w2 #[.slice A3 g.ids.length k3,.slice A4 g.ports.length k4] 25);clear hb)))
  have HYd:=aA0 (HY2.out.keep HA2.out);have HBd:=aA0 (HB1.out.trans (HB2.out.trans HA2.out));have HP:=aA0 (fun w' (k:Bel _ w')=>HP1.out w' (HB2.out.trans (HA2.out.trans k)));have HG:=aA0 (fun w' (k:Bel _ w')=>HG2.out w' (HA2.out.trans k));clear HY HA1 HY2 HP1 HG2 HB1 HB2 HA2;generalize w2.alloc (.cells #[.slice A3 g.ids.length k3,.slice A4 g.ports.length k4] 25)=Wd at *;generalize w1.heap.size=gP at *;generalize w2.heap.size=gG at *;have hcell:Hid (∀ w',Bel Wd w'->(fun w'=>w'.cell? ⟨gP,0,none⟩=some (.string prK.name)/\w'.cell? ⟨gP,1,none⟩=some (.slice A1 prK.vars.length k1)/\w'.cell? ⟨gP,2,none⟩=some (.slice A2 prK.rules.length k2)/\gP<w'.heap.size/\w'.cell? ⟨gG,0,none⟩=some (.slice A3 g.ids.length k3)/\w'.cell? ⟨gG,1,none⟩=some (.slice A4 g.ports.length k4)/\gG<w'.heap.size) w'):=fun w' k=>have a:=HYd.out.keep k;have b:=HZ.out.keep k;⟨a.cell 0 rfl,a.cell 1 rfl,a.cell 2 rfl,a.lt,b.cell 0 rfl,b.cell 1 rfl,b.lt⟩;replace HT:=aA0 (fun w' (k:Bel Wd w')=>HT.out w' (HBd.out.trans k))
  go_cut [11,12] (fun pv ev wc=>∃ (AE:Option Addr) (cE:Nat) (AA:Option Addr) (cA bS:Nat),pv = .pointer (some ⟨bS,0,none⟩)/\ev = .int .i64 0/\Hid (Blk wc bS #[.slice AE s.enabled.length cE,.slice AA s.arcs.length cA] 42)/\Hid (∀ W,Bel wc W->aBk W (.agg #[.slice AE s.enabled.length cE,.slice AA s.arcs.length cA]) s)/\Hid (Bel Wd wc))
  case first =>
   refine aA4.start (fun w'=>w'.cell? ⟨gP,0,none⟩=some (.string prK.name)/\w'.cell? ⟨gP,1,none⟩=some (.slice A1 prK.vars.length k1)/\w'.cell? ⟨gP,2,none⟩=some (.slice A2 prK.rules.length k2)/\gP<w'.heap.size/\w'.cell? ⟨gG,0,none⟩=some (.slice A3 g.ids.length k3)/\w'.cell? ⟨gG,1,none⟩=some (.slice A4 g.ports.length k4)/\gG<w'.heap.size) 11 (by kernel_rfl) ?_
   have HB:=(Bel.refl Wd).drew;have HB0:=aA0 (Bel.refl Wd);have hHeld:=hcell.out _ HB
   (refine aA4.u (v:=?_) 0 34 rfl hHeld ?_ ?_;rotate_left 1;focus (intro w' hSw;(try dsimp only at hSw);go_simp;(try with_reducible rfl);done));(refine aA4.u (v:=?_) 1 35 rfl hHeld ?_ ?_;rotate_left 1;focus (intro w' hSw;(try dsimp only at hSw);go_simp;(try with_reducible rfl);done));(refine aA4.u (v:=?_) 2 36 rfl hHeld ?_ ?_;rotate_left 1;focus (intro w' hSw;(try dsimp only at hSw);go_simp;(try with_reducible rfl);done))
   refine aA4.two (i:=3) (j:=9) (by kernel_rfl) rfl rfl (fun K hK=>?_) (fun K hK=>?_)
   .go_simp
    go_at_call 16
    refine (aUv kind 4 _ (by decide) (by decide)).mono ?_
    rintro e w9 ⟨rfl,rfl⟩;rw [HMO.out];refine hK.out _ _ (fun _=>hcell.out _ (HB)) ?_
    clear hK K
    (try clear hHeld)
    (try simp only [Act.put,List.setIfInBounds_toArray,List.set_cons_zero,List.set_cons_succ])
    have hHeld:=hcell.out _ (HB)
    (refine aA4.u (v:=?_) 4 38 rfl hHeld ?_ ?_;rotate_left 1;focus (intro w' hSw;(try dsimp only at hSw);go_simp;(try with_reducible rfl);done))
    refine aA4.two (i:=5) (j:=9) (by kernel_rfl) rfl rfl (fun K hK=>?_) (fun K hK=>?_)
    .go_simp
     go_at_call 12
     have hbd:=aCe _ prK _ g (1+mk) _ (HP.out _ HB) (HG.out _ HB) (HT.out _ HB) aE0.2.2.2.1 HGL.out HFW.out;rw [HBD.out] at hbd;refine hbd.mono ?_
     rintro e w6 ⟨v,rfl,hS,hb⟩;obtain ⟨AE,cE,AA,cA,rfl,_,_,_,_,_,_⟩:=(id hS.now:aBk _ _ _);have HS:=aA0 hS;replace HB:=HB.trans hb;clear hb
     (try go_simp)
     refine hK.out _ _ (fun _=>hcell.out _ (HB)) ?_
     clear hK K
     (try clear hHeld)
     (try simp only [Act.put,List.setIfInBounds_toArray,List.set_cons_zero,List.set_cons_succ])
     have hHeld:=hcell.out _ (HB)
     (refine aA4.u (v:=?_) 6 33 rfl hHeld ?_ ?_;rotate_left 1;focus (intro w' hSw;(try dsimp only at hSw);go_simp;(try with_reducible rfl);done))
     (refine aA4.u (v:=?_) 7 40 rfl hHeld ?_ ?_;rotate_left 1;focus (intro w' hSw;(try dsimp only at hSw);go_simp;(try with_reducible rfl);done))
     (refine aA4.u (v:=?_) 8 41 rfl hHeld ?_ ?_;rotate_left 1;focus (intro w' hSw;(try dsimp only at hSw);go_simp;(try with_reducible rfl);done))
     refine aA4.one (i:=9) (by kernel_rfl) rfl (fun K hK=>?_)
     go_simp
     refine hK.out _ _ (fun _=>hcell.out _ (HB.alloc _)) ?_
     clear hK K
     (try clear hHeld)
     (try simp only [Act.put,List.setIfInBounds_toArray,List.set_cons_zero,List.set_cons_succ])
     refine aA4.one (i:=10) (by kernel_rfl) rfl (fun K hK=>?_)
     go_simp
     refine hK.out _ _ (fun _=>hcell.out _ (HB.alloc _)) ?_
     clear hK K
     (try clear hHeld)
     (try simp only [Act.put,List.setIfInBounds_toArray,List.set_cons_zero,List.set_cons_succ])
     refine aA4.one (i:=11) (by kernel_rfl) rfl (fun K hK=>?_)
     go_simp
     refine hK.out _ _ (fun h=>absurd rfl h) ?_
     clear hK K
     (try clear hHeld)
     refine aA4.done (by kernel_rfl) ?_ _
     go_wp2_with fail
     go_meet
     exact ⟨_,_,_,_,_,rfl,rfl,Blk.new _ _ _,fun W k=>hS.now.keep (((Bel.refl w6).alloc _).trans k),HB.alloc _⟩
    .go_simp
     refine hK.out _ _ (fun _=>hcell.out _ (HB.alloc _)) ?_
     clear hK K
     (try clear hHeld)
     (try simp only [Act.put,List.setIfInBounds_toArray,List.set_cons_zero,List.set_cons_succ])
     have HZB:=aA0 ((Blk.new Wd #[.slice none 0 0,.slice none 0 0] 42).drew);replace HB:=(HB0.out.alloc (.cells #[.slice none 0 0,.slice none 0 0] 42)).drew;have hVs:=HZB.out.lt;generalize (Wd.alloc (.cells #[.slice none 0 0,.slice none 0 0] 42)).drew=V at *;generalize hbzE:Wd.heap.size=bz at HZB hVs ⊢;have hbz:Wd.heap.size<=bz:=Nat.le_of_eq hbzE;clear hbzE;have hHeld:=hcell.out _ HB;refine aA4.one (i:=5) (by kernel_rfl) rfl (fun K hK=>?_)
     go_simp
     go_at_call 12
     have hbd:=aCe _ prK _ g (1+mk) _ (HP.out _ HB) (HG.out _ HB) (HT.out _ HB) aE0.2.2.2.1 HGL.out HFW.out;rw [HBD.out] at hbd;refine hbd.mono ?_
     rintro e w6 ⟨v,rfl,hS,hb⟩;obtain ⟨AE,cE,AA,cA,rfl,_,_,_,_,_,_⟩:=(id hS.now:aBk _ _ _);have HS:=aA0 hS;replace HB:=HB.trans hb;replace HZB:=aA0 (HZB.out.keep hb);clear hb
     (try go_simp)
     refine hK.out _ _ (fun _=>hcell.out _ (HB)) ?_
     clear hK K
     (try clear hHeld)
     (try simp only [Act.put,List.setIfInBounds_toArray,List.set_cons_zero,List.set_cons_succ])
     have hHeld:=hcell.out _ (HB)
     (refine aA4.u (v:=?_) 6 33 rfl hHeld ?_ ?_;rotate_left 1;focus (intro w' hSw;(try dsimp only at hSw);go_simp;(try with_reducible rfl);done))
     (refine aA4.u (v:=?_) 7 40 rfl hHeld ?_ ?_;rotate_left 1;focus (intro w' hSw;(try dsimp only at hSw);go_simp;(try with_reducible rfl);done))
     (refine aA4.u (v:=?_) 8 41 rfl hHeld ?_ ?_;rotate_left 1;focus (intro w' hSw;(try dsimp only at hSw);go_simp;(try with_reducible rfl);done))
     have z0:=HZB.out.cell 0 (v := .slice none 0 0) rfl;have z1:=HZB.out.cell 1 (v := .slice none 0 0) rfl;have zf0:=HZB.out.frozen 0;have zf1:=HZB.out.frozen 1;have zl:=HZB.out.lt;refine aA4.one (i:=10) (by kernel_rfl) rfl (fun K hK=>?_)
     go_simp
     refine hK.out _ _ (fun _=>hcell.out _ ((HB.setCell (p:=⟨bz,0,none⟩) hbz _).setCell (p:=⟨bz,1,none⟩) hbz _)) ?_
     clear hK K
     (try clear hHeld)
     (try simp only [Act.put,List.setIfInBounds_toArray,List.set_cons_zero,List.set_cons_succ])
     refine aA4.one (i:=11) (by kernel_rfl) rfl (fun K hK=>?_)
     go_simp
     refine hK.out _ _ (fun h=>absurd rfl h) ?_
     clear hK K
     (try clear hHeld)
     refine aA4.done (by kernel_rfl) ?_ _
     go_wp2_with fail
     go_meet
     exact ⟨_,_,_,_,_,rfl,rfl,(HZB.out.set 0 _).set 1 _,fun W k=>hS W (((Agr.setCell (E:=fun q=>q<V.heap.size) w6 ⟨bz,0,none⟩ _ hVs).trans (Agr.setCell (E:=fun q=>q<V.heap.size) _ ⟨bz,1,none⟩ _ hVs)).trans (Agr.of_belM k)),(HB.setCell (p:=⟨bz,0,none⟩) hbz _).setCell (p:=⟨bz,1,none⟩) hbz _⟩
   .go_simp
    refine hK.out _ _ (fun _=>hcell.out _ (HB.alloc _)) ?_
    clear hK K
    (try clear hHeld)
    (try simp only [Act.put,List.setIfInBounds_toArray,List.set_cons_zero,List.set_cons_succ])
    have HZB:=aA0 ((Blk.new Wd #[.slice none 0 0,.slice none 0 0] 42).drew);replace HB:=(HB0.out.alloc (.cells #[.slice none 0 0,.slice none 0 0] 42)).drew;have hVs:=HZB.out.lt;generalize (Wd.alloc (.cells #[.slice none 0 0,.slice none 0 0] 42)).drew=V at *;generalize hbzE:Wd.heap.size=bz at HZB hVs ⊢;have hbz:Wd.heap.size<=bz:=Nat.le_of_eq hbzE;clear hbzE;have hHeld:=hcell.out _ HB;refine aA4.one (i:=3) (by kernel_rfl) rfl (fun K hK=>?_)
    go_simp
    go_at_call 16
    refine (aUv kind 4 _ (by decide) (by decide)).mono ?_
    rintro e w9 ⟨rfl,rfl⟩;rw [HMO.out];refine hK.out _ _ (fun _=>hcell.out _ (HB)) ?_
    clear hK K
    (try clear hHeld)
    (try simp only [Act.put,List.setIfInBounds_toArray,List.set_cons_zero,List.set_cons_succ])
    have hHeld:=hcell.out _ (HB)
    (refine aA4.u (v:=?_) 4 38 rfl hHeld ?_ ?_;rotate_left 1;focus (intro w' hSw;(try dsimp only at hSw);go_simp;(try with_reducible rfl);done))
    refine aA4.one (i:=5) (by kernel_rfl) rfl (fun K hK=>?_)
    go_simp
    go_at_call 12
    have hbd:=aCe _ prK _ g (1+mk) _ (HP.out _ HB) (HG.out _ HB) (HT.out _ HB) aE0.2.2.2.1 HGL.out HFW.out;rw [HBD.out] at hbd;refine hbd.mono ?_
    rintro e w6 ⟨v,rfl,hS,hb⟩;obtain ⟨AE,cE,AA,cA,rfl,_,_,_,_,_,_⟩:=(id hS.now:aBk _ _ _);have HS:=aA0 hS;replace HB:=HB.trans hb;replace HZB:=aA0 (HZB.out.keep hb);clear hb
    (try go_simp)
    refine hK.out _ _ (fun _=>hcell.out _ (HB)) ?_
    clear hK K
    (try clear hHeld)
    (try simp only [Act.put,List.setIfInBounds_toArray,List.set_cons_zero,List.set_cons_succ])
    have hHeld:=hcell.out _ (HB)
    (refine aA4.u (v:=?_) 6 33 rfl hHeld ?_ ?_;rotate_left 1;focus (intro w' hSw;(try dsimp only at hSw);go_simp;(try with_reducible rfl);done))
    (refine aA4.u (v:=?_) 7 40 rfl hHeld ?_ ?_;rotate_left 1;focus (intro w' hSw;(try dsimp only at hSw);go_simp;(try with_reducible rfl);done))
    (refine aA4.u (v:=?_) 8 41 rfl hHeld ?_ ?_;rotate_left 1;focus (intro w' hSw;(try dsimp only at hSw);go_simp;(try with_reducible rfl);done))
    have z0:=HZB.out.cell 0 (v := .slice none 0 0) rfl;have z1:=HZB.out.cell 1 (v := .slice none 0 0) rfl;have zf0:=HZB.out.frozen 0;have zf1:=HZB.out.frozen 1;have zl:=HZB.out.lt;refine aA4.one (i:=10) (by kernel_rfl) rfl (fun K hK=>?_)
    go_simp
    refine hK.out _ _ (fun _=>hcell.out _ ((HB.setCell (p:=⟨bz,0,none⟩) hbz _).setCell (p:=⟨bz,1,none⟩) hbz _)) ?_
    clear hK K
    (try clear hHeld)
    (try simp only [Act.put,List.setIfInBounds_toArray,List.set_cons_zero,List.set_cons_succ])
    refine aA4.one (i:=11) (by kernel_rfl) rfl (fun K hK=>?_)
    go_simp
    refine hK.out _ _ (fun h=>absurd rfl h) ?_
    clear hK K
    (try clear hHeld)
    refine aA4.done (by kernel_rfl) ?_ _
    go_wp2_with fail
    go_meet
    exact ⟨_,_,_,_,_,rfl,rfl,(HZB.out.set 0 _).set 1 _,fun W k=>hS W (((Agr.setCell (E:=fun q=>q<V.heap.size) w6 ⟨bz,0,none⟩ _ hVs).trans (Agr.setCell (E:=fun q=>q<V.heap.size) _ ⟨bz,1,none⟩ _ hVs)).trans (Agr.of_belM k)),(HB.setCell (p:=⟨bz,0,none⟩) hbz _).setCell (p:=⟨bz,1,none⟩) hbz _⟩
  case rest =>
  obtain ⟨AE,cE,AA,cA,bS,rfl,rfl,HSB,HSV,HBW⟩:=hcut;have x0:=HSB.out.cell 0 (v := .slice AE s.enabled.length cE) rfl;have x1:=HSB.out.cell 1 (v := .slice AA s.arcs.length cA) rfl;have xl:=HSB.out.lt
  go_wp2_with (go_at_call 17;refine (aFl _ s _ (HSV.out _ (Bel.refl _)) HWF.out HLS.out).mono ?_;rintro e wv ⟨rfl,hb⟩;rw [HVA.out];have HBV:=aA0 hb;have HSB2:=aA0 (HSB.out.keep hb);clear hb)
  clear x0 x1 xl
  have HE:Hid (∀ W,Bel wc W->aBw W AE s.enabled.length s.enabled):=fun W k=>by
   obtain ⟨AE',cE',AA',cA',e9,hE9,_⟩:=HSV.out W k;have e8:AE=AE':=by simp at e9;exact e9.1.1
   rw [e8];exact hE9
  go_loopg [13,14] s.enabled.length (fun m y z wr=>∃ (k:Nat) (A:Option Addr) (c:Nat),k<=s.enabled.length/\m=s.enabled.length-k/\y = .slice A k c/\z = .int .i64 (k:Int)/\Hid (wr.ownsRow wv.heap.size 4 1 (.slice A k c) k (((aLu s).take k).map Value.bool))/\Hid (Bel wv wr))
  case atStart=>exact ⟨0,none,0,by omega,rfl,rfl,rfl,World.ownsRow_nil _ _ _ _,Bel.refl _⟩
  case round =>
   obtain ⟨k,A,c,hk,rfl,rfl,rfl,HO,HB⟩:=hrel;have x0:=(HSB2.out.keep HB.out).cell 0 (v := .slice AE s.enabled.length cE) rfl;have xl:=(HSB2.out.keep HB.out).lt
   by_cases hlt:k<s.enabled.length
   .have hd0:decide (k<s.enabled.length)=true:=by simpa using hlt
    obtain ⟨bE,oE,rfl,hbE,e1⟩:=(HE.out _ (HBV.out.trans HB.out)).at_ k hlt;have HTS:=aA0 (aYk hlt);have hE0:=HNE.out k (by have:=HEN.out;omega)
    have hE16:=H16.out k;rw [List.getD_eq_getElem?_getD,List.getElem?_eq_getElem hlt,Option.getD_some] at hE0 hE16;generalize s.enabled[k]=E at *;have hbz:((E:Int)==0)=false:=by simpa using hE0
    have HE32:Hid (E<4294967296):=by show E<_;omega
    clear hE0 hE16;obtain ⟨cn,hcn⟩:∃ cn,cn=(aAd E).length:=⟨_,rfl⟩;rw [<- hcn] at HTS;have HCN:=aA0 hcn;clear hcn;have hb1:((cn:Int)==1)=decide (cn=1):=by rw [Bool.eq_iff_iff];simp;omega
    generalize decide (cn=1)=bz at *;have hwr:=HB.out.size
    go_wp2_with (first
     | (go_at_call 18;refine (aJt E _ HE32.out).mono ?_;rintro e w9 ⟨rfl,rfl⟩;rw [<- HCN.out])
     | (at_builtin;refine aBr _ rfl (.tmp 70) (.tmp 78) 45 rfl wv.heap.size 4 j0 (.bool false) 1 1 underlying45 hj0 hj1 hj2 hj3 rfl (by decide) A k c (((aLu s).take k).map Value.bool) (by simp [Act.eval]) (HO.out.alloc _) wr.heap.size #[.bool bz] 4 (0,0) (by simp [Act.eval]) (aAx _ _) rfl (aV7 _) (by unfold maxLen;omega) (by omega) (by simp;omega) ?_;intro A2 c2 w4 hown hgr hat;have HN:=aA0 hown;have HB4:=aA0 ((HB.out.alloc (.cells #[.bool bz] 4)).push (HO.out.alloc _) hgr);clear hown hgr hat))
    go_roundg (s.enabled.length-(k+1))
    case rel=>exact ⟨k+1,A2,c2,by omega,rfl,rfl,by go_num,by rw [HTS.out,List.map_append];exact HN.out,HB4.out⟩
    case measure=>omega
   .obtain rfl:k=s.enabled.length:=by omega
    have hd0:decide (s.enabled.length<s.enabled.length)=false:=by simp
    have HLG:=aA0 (fun w' (kk:Bel wr w')=>aGr (l:=aLu s) (aMz (kk.owns (show wr.ownsRow wv.heap.size 4 1 (.slice A s.enabled.length c) s.enabled.length ((aLu s).map Value.bool) from by have:=HO.out;rwa [List.take_of_length_le (by rw [aV6];omega)] at this)) HEN.out.symm))
    have HBr:=aA0 (HBV.out.trans HB.out);clear HO
    go_upto_region 16 with fail
    rw [show s.enabled.length=s.arcs.length from HEN.out.symm] at x0 ⊢
    have HXr:Hid (Blk wr bS #[.slice AE s.arcs.length cE,.slice AA s.arcs.length cA] 42):=by have:=HSB2.out.keep HB.out;rwa [show s.enabled.length=s.arcs.length from HEN.out.symm] at this
    have HSr:Hid (∀ W,Bel wr W->aBk W (.agg #[.slice AE s.arcs.length cE,.slice AA s.arcs.length cA]) s):=fun W kk=>by have:=HSV.out W (HBr.out.trans kk);rwa [show s.enabled.length=s.arcs.length from HEN.out.symm] at this
    have x1:=HXr.out.cell 1 (v := .slice AA s.arcs.length cA) rfl
    go_wp2_with (first
     | (go_at_call 19;go_must (refine (aSp _ s A c (aLu s) _ (HSr.out _ (Bel.refl _)) (HLG.out _ (Bel.refl wr)) HLS.out HWF.out HVA.out HCLO.out).mono ?_;rintro e w3 ⟨rfl,hb⟩;have HB3:=aA0 hb;clear x0 x1 xl;have x0:=(HXr.out.keep hb).cell 0 (v := .slice AE s.arcs.length cE) rfl;have x1:=(HXr.out.keep hb).cell 1 (v := .slice AA s.arcs.length cA) rfl;have xl:=(HXr.out.keep hb).lt;clear hb))
     | (go_at_call 20;go_must (refine (aLa _ s A c (aLu s) _ (HSr.out _ HB3.out) (HLG.out _ HB3.out) HLS.out HWF.out HVA.out HALL.out f HC1.out HC2.out G fr H16.out HR.out).mono ?_;rintro e w5 ⟨A0,c0,r1,A5,c5,r2,A6,c6,rfl,hr1,hr2,hb1,hb2,ho1,ho2,hb⟩;have HB5:=aA0 (HB3.out.trans hb);have HR1:=aA0 hr1;have HR2:=aA0 hr2;have HN1:=aA0 hb1;have HN2:=aA0 hb2;have HO1:=aA0 ho1;have HO2:=aA0 ho2;clear hr1 hr2 hb1 hb2 ho1 ho2 hb)))
    have hle2:s.arcs.length<=700:=by have:=HEN.out;omega
    have hI:Bel w5 w5:=Bel.refl w5;clear x0 x1 xl
    go_loopg [21] s.arcs.length (fun m z wr=>∃ k:Nat,k<=s.arcs.length/\m=s.arcs.length-k/\z = .int .i64 (k:Int)/\Hid (Bel w5 wr))
    case atStart=>exact ⟨0,by omega,rfl,rfl,hI⟩
    case round =>
     clear hI;obtain ⟨k,hk,rfl,rfl,HC⟩:=hrel
     by_cases hlt:k<s.arcs.length
     .have hd1:decide (k<s.arcs.length)=true:=by simpa using hlt
      obtain ⟨g1,rfl,_,l1,c1,_⟩:=aAj (HC.out.owns HO1.out) (j:=k) (u := .int .i64 (r1.getD k 0)) (by simp [List.getD_eq_getElem?_getD,HR1.out,hlt])
      obtain ⟨g2,rfl,_,l2,c2,_⟩:=aAj (HC.out.owns HO2.out) (j:=k) (u := .int .i64 (r2.getD k 0)) (by simp [List.getD_eq_getElem?_getD,HR2.out,hlt])
      have h1:=HN1.out k hlt;have h2:=HN2.out k hlt;have h3:=HFM.out k hlt
      have h4:r2.getD k 0<=20:=by
       cases hc:(aLu s).getD k false with
       | true=>rw [hc,if_pos rfl] at h2;omega
       | false=>rw [hc,if_neg (by decide)] at h2;have:=HFR.out k hlt hc;omega
      generalize r1.getD k 0=z1 at *;generalize r2.getD k 0=z2 at *;have d3:decide (22<z1)=false:=by simp;omega
      have d4:decide (20<z2)=false:=by simp;omega
      clear h1 h2 h3 h4
      go_wp2_with fail
      go_roundg (s.arcs.length-(k+1))
      case rel=>exact ⟨k+1,by omega,rfl,by go_num,HC.out⟩
      case measure=>omega
     .obtain rfl:k=s.arcs.length:=by omega
      have hd1:decide (s.arcs.length<s.arcs.length)=false:=by simp
      have HBZ:=aA0 (HBd.out.trans (HBW.out.trans (HBr.out.trans (HB5.out.trans HC.out))))
      go_wp2_with (go_at_call 8;refine (aE4 _ (HT.out _ (HBW.out.trans (HBr.out.trans (HB5.out.trans HC.out))))).mono ?_;rintro e w7 ⟨rfl,hb⟩;have HB7:=aA0 (HBZ.out.trans hb);clear hb)
      go_ret;exact ⟨rfl,HB7.out⟩
end Go.Proofs.YtmoebklkkjbigaaGreatDoor

