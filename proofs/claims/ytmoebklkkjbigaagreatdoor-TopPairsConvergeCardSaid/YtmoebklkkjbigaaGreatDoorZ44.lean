/- Merged. -/
import Derived.Test.YtmoebklkkjbigaaGreatDoorZ43
set_option linter.unusedSimpArgs false
set_option linter.unnecessarySimpa false
set_option linter.unusedVariables false
set_option maxRecDepth 100000
set_option maxHeartbeats 8000000
open Go.Proofs.Tryz

namespace Go.Proofs.YtmoebklkkjbigaaGreatDoor
open Go.RowKit
structure KnownL (p:Prg) (g:Graph) (kind moves rounds:Int):Prop where
 few:(aDx p g).2=0->aE7 p g<=700/\g.ports.length<=5
 sys:∃ (s:Spc) (f:Nat->Int) (G:Nat->Nat->Prop) (fr:Nat->Nat->Int),aJl p g kind=(s,0)/\aE3 s=true/\wfS s/\aD5 s=true/\(∀ k,s.enabled.getD k 0<16)/\(∀ o,OrdP s.arcs (aE8 s) s.arcs.length o->s.arcs.length<=o.length)/\CostP s.arcs (aE8 s) s.arcs.length (fun x=>((aAg x.1).length:Int)) f/\(∀ k,k<s.arcs.length->f k<=moves)/\RndP s.arcs s.enabled (aE8 s) s.arcs.length G fr/\(∀ k,k<s.arcs.length->(aE8 s).getD k false=false->fr k (s.enabled.getD k 0)<=rounds)
theorem aHq (v1:Value) (p:Prg) (v2:Value) (g:Graph) (kind moves rounds:Int) (w:World) (h:aKy w v1 p) (h2:aB7 w v2 g) (hT:aDr w) (hL:aCi p=true) (hG:aC7 g=true) (hK:KnownL p g kind moves rounds) (hm0:0<=moves) (hr0:0<=rounds) :
  Calls prog 11 #[v1,v2,.int .i64 kind,.int .i64 moves,.int .i64 rounds] w fun e w'=>e = .returned (.bool true)/\Bel w w':=by
 obtain ⟨hf,s,f,G,fr,a1,a2,a3,a4,a5,a6,a7,a8,a9,a10⟩:=hK;exact aZ7 v1 p v2 g kind moves rounds w h h2 hT hL hG hf s a1 a2 a3 a4 a5 a6 f a7 a8 G fr a9 a10 hm0 hr0
theorem bHk {g:Graph} (h:aC7 g=true):∀ k,k<=g.ports.length->aPg g k<=30*k
 | 0,_=>by simp [aPg]
 | k+1,hk=>by
  rw [aMb (by omega)]
  have h1:=bHk h k (by omega)
  have h2:=(aG1 h).2.2 _ (List.getElem_mem (show k<g.ports.length by omega))
  omega
def bBv:Prop:=∀ g,GOK g->g.ports.length<=4->∀ kind:Int,kind=1∨kind=2->KnownL prP g kind ((2*(aPg g g.ports.length / 2)+g.ids.length:Nat):Int) ((2*(aPg g g.ports.length / 2)+g.ids.length:Nat):Int)
theorem aW5 (hlaw:bBv) (v:Value) (g:Graph) (local_:Bool) (w:World) (h:aB7 w v g) (hT:aDr w) :
  Calls prog 3 #[v,.bool local_] w fun e w'=>e = .returned (.bool true)/\Bel w w':=by
 have HT:=aA0 (fun w' (k:Bel w w')=>hT.keep k);have HGV:=aA0 (fun w' (k:Bel w w')=>h.keep k);obtain ⟨A,k,A2,k2,rfl,_,_,_,_,_,_⟩:=h;clear hT;have HPA:=aA0 (fun w0:World=>aRl (ba txP) tkP prP w0 aH1.1 bQ1 bPx aH1.2.1 aH1.2.2.1 aH1.2.2.2.1 aH1.2.2.2.2);have HB0:=aA0 ((Bel.refl w).alloc (.cells #[.slice A g.ids.length k,.slice A2 g.ports.length k2] 25));have HX:=aA0 (Blk.new w #[.slice A g.ids.length k,.slice A2 g.ports.length k2] 25);have HLAW:=aA0 hlaw;clear hlaw;cases hlg:aC7 g with
 | false =>
  go_enter func3,ntmps3
  go_wp2_with (first
   | (go_at_call 6;refine (aBl _ g _ (HGV.out _ HB0.out)).mono ?_;rintro e w1 ⟨rfl,hb⟩;rw [hlg];have HB1:=aA0 (HB0.out.trans hb);clear hb)
   | (go_at_call 8;refine (aC8 _ (HT.out _ HB1.out)).mono ?_;rintro e w2 ⟨rfl,hb⟩;have HB2:=aA0 (HB1.out.trans hb);clear hb))
  go_ret;exact ⟨rfl,HB2.out⟩
 | true =>
  cases hgb:aF2 g with
  | false =>
   go_enter func3,ntmps3
   go_wp2_with (first
    | (go_at_call 6;refine (aBl _ g _ (HGV.out _ HB0.out)).mono ?_;rintro e w1 ⟨rfl,hb⟩;rw [hlg];have HB1:=aA0 (HB0.out.trans hb);have x0:=(HX.out.keep hb).cell 0 (v := .slice A g.ids.length k) rfl;have x1:=(HX.out.keep hb).cell 1 (v := .slice A2 g.ports.length k2) rfl;have xl:=(HX.out.keep hb).lt;clear hb)
    | (go_at_call 7;refine (aBi _ g _ (HGV.out _ HB1.out) hlg).mono ?_;rintro e w2 ⟨rfl,hb⟩;rw [hgb];have HB2:=aA0 (HB1.out.trans hb);clear hb)
    | (go_at_call 8;refine (aC8 _ (HT.out _ HB2.out)).mono ?_;rintro e w3 ⟨rfl,hb⟩;have HB3:=aA0 (HB2.out.trans hb);clear hb))
   go_ret;exact ⟨rfl,HB3.out⟩
  | true =>
   have hg:=(aCa g).1 hgb;have hn24:=hg.le;have hids:=hg.ids
   by_cases h4:4<g.ports.length
   .have d4:decide ((4:Int)<(g.ports.length:Int))=true:=by simp;omega
    clear hids;go_enter func3,ntmps3
    go_wp2_with (first
     | (go_at_call 6;refine (aBl _ g _ (HGV.out _ HB0.out)).mono ?_;rintro e w1 ⟨rfl,hb⟩;rw [hlg];have HB1:=aA0 (HB0.out.trans hb);have HX1:=aA0 (HX.out.keep hb);have x0:=HX1.out.cell 0 (v := .slice A g.ids.length k) rfl;have x1:=HX1.out.cell 1 (v := .slice A2 g.ports.length k2) rfl;have xl:=HX1.out.lt;clear hb)
     | (go_at_call 7;refine (aBi _ g _ (HGV.out _ HB1.out) hlg).mono ?_;rintro e w2 ⟨rfl,hb⟩;rw [hgb];have HB2:=aA0 (HB1.out.trans hb);have HX2:=aA0 (HX1.out.keep hb);clear x0 x1 xl;have x0:=HX2.out.cell 0 (v := .slice A g.ids.length k) rfl;have x1:=HX2.out.cell 1 (v := .slice A2 g.ports.length k2) rfl;have xl:=HX2.out.lt;clear hb)
     | (go_at_call 8;refine (aC8 _ (HT.out _ HB2.out)).mono ?_;rintro e w3 ⟨rfl,hb⟩;have HB3:=aA0 (HB2.out.trans hb);clear hb))
    go_ret;exact ⟨rfl,HB3.out⟩
   .have d4:decide ((4:Int)<(g.ports.length:Int))=false:=by simp;omega
    have hdl:=bHk hlg g.ports.length (Nat.le_refl _);have hK:=aA0 (HLAW.out g hg (by omega) (if local_ then 2 else 1) (by cases local_ <;> simp))
    have HGK:=aA0 hg;obtain ⟨m,hm⟩:∃ m,m=aPg g g.ports.length / 2:=⟨_,rfl⟩;rw [<- hm] at hK;have hml:m<=360:=by omega
    have HM:=aA0 hm;clear hm hdl hg;have hil:g.ids.length<=24:=by omega
    clear hids;have ew:IntKind.i64.wrap (2*(m:Int)+(g.ids.length:Int))=((2*m+g.ids.length:Nat):Int):=by rw [IntWalk.i64_in _ (by omega)];omega
    cases local_ with
    | false =>
     rw [if_neg (by decide)] at hK
     go_enter func3,ntmps3
     go_wp2_with (first
      | (go_at_call 6;refine (aBl _ g _ (HGV.out _ HB0.out)).mono ?_;rintro e w1 ⟨rfl,hb⟩;rw [hlg];have HB1:=aA0 (HB0.out.trans hb);have HX1:=aA0 (HX.out.keep hb);have x0:=HX1.out.cell 0 (v := .slice A g.ids.length k) rfl;have x1:=HX1.out.cell 1 (v := .slice A2 g.ports.length k2) rfl;have xl:=HX1.out.lt;clear hb)
      | (go_at_call 7;refine (aBi _ g _ (HGV.out _ HB1.out) hlg).mono ?_;rintro e w2 ⟨rfl,hb⟩;rw [hgb];have HB2:=aA0 (HB1.out.trans hb);have HX2:=aA0 (HX1.out.keep hb);clear x0 x1 xl;have x0:=HX2.out.cell 0 (v := .slice A g.ids.length k) rfl;have x1:=HX2.out.cell 1 (v := .slice A2 g.ports.length k2) rfl;have xl:=HX2.out.lt;clear hb)
      | (go_at_call 9;go_must (refine (HPA.out _).mono ?_;rintro e w3 ⟨⟨vp,rfl,hp⟩,hb⟩;have HP:=aA0 (fun w' (k:Bel w3 w')=>hp.keep k);have HB3:=aA0 (HB2.out.trans hb);have HX3:=aA0 (HX2.out.keep hb);clear x0 x1 xl;obtain ⟨A3,k3,A4,k4,rfl,_,_,_,_,_,_⟩:=hp;have HA3:=aA0 ((Bel.refl w3).alloc (.cells #[.string prP.name,.slice A3 prP.vars.length k3,.slice A4 prP.rules.length k4] 31));have HY:=aA0 (Blk.new w3 #[.string prP.name,.slice A3 prP.vars.length k3,.slice A4 prP.rules.length k4] 31);have x0:=HX3.out.cell 0 (v := .slice A g.ids.length k) rfl;have x1:=HX3.out.cell 1 (v := .slice A2 g.ports.length k2) rfl;have xl:=HX3.out.lt;clear hb))
      | (go_at_call 10;go_must (refine (aPz _ g _ (HGV.out _ (HB3.out.trans HA3.out)) hlg HGK.out).mono ?_;rintro e w4 ⟨rfl,hb⟩;rw [<- HM.out];have HB4:=aA0 (HA3.out.trans hb);have HB4W:=aA0 hb;clear hb))
      | (go_at_call 8;go_must (refine (aC8 _ (HT.out _ (HB3.out.trans HB4.out))).mono ?_;rintro e w5 ⟨rfl,hb⟩;have HB5:=aA0 (HB4.out.trans hb);have HY5:=aA0 ((HY.out.keep HB4W.out).keep hb);have y0:=HY5.out.cell 0 (v := .string prP.name) rfl;have y1:=HY5.out.cell 1 (v := .slice A3 prP.vars.length k3) rfl;have y2:=HY5.out.cell 2 (v := .slice A4 prP.rules.length k4) rfl;have yl:=HY5.out.lt;have HX5:=aA0 (HX3.out.keep HB5.out);clear x0 x1 xl;have x0:=HX5.out.cell 0 (v := .slice A g.ids.length k) rfl;have x1:=HX5.out.cell 1 (v := .slice A2 g.ports.length k2) rfl;have xl:=HX5.out.lt;clear hb))
      | (go_at_call 11;go_must (refine (aHq _ prP _ g 1 _ _ _ (HP.out _ HB5.out) (HGV.out _ (HB3.out.trans HB5.out)) (HT.out _ (HB3.out.trans HB5.out)) aH1.2.2.2.1 hlg hK.out (by omega) (by omega)).mono ?_;rintro e w6 ⟨rfl,hb⟩;have HB6:=aA0 ((HB3.out.trans HB5.out).trans hb);clear hb)))
     go_ret;exact ⟨rfl,HB6.out⟩
    | true =>
     rw [if_pos rfl] at hK;go_enter func3,ntmps3
     go_wp2_with (first
      | (go_at_call 6;refine (aBl _ g _ (HGV.out _ HB0.out)).mono ?_;rintro e w1 ⟨rfl,hb⟩;rw [hlg];have HB1:=aA0 (HB0.out.trans hb);have HX1:=aA0 (HX.out.keep hb);have x0:=HX1.out.cell 0 (v := .slice A g.ids.length k) rfl;have x1:=HX1.out.cell 1 (v := .slice A2 g.ports.length k2) rfl;have xl:=HX1.out.lt;clear hb)
      | (go_at_call 7;refine (aBi _ g _ (HGV.out _ HB1.out) hlg).mono ?_;rintro e w2 ⟨rfl,hb⟩;rw [hgb];have HB2:=aA0 (HB1.out.trans hb);have HX2:=aA0 (HX1.out.keep hb);clear x0 x1 xl;have x0:=HX2.out.cell 0 (v := .slice A g.ids.length k) rfl;have x1:=HX2.out.cell 1 (v := .slice A2 g.ports.length k2) rfl;have xl:=HX2.out.lt;clear hb)
      | (go_at_call 9;go_must (refine (HPA.out _).mono ?_;rintro e w3 ⟨⟨vp,rfl,hp⟩,hb⟩;have HP:=aA0 (fun w' (k:Bel w3 w')=>hp.keep k);have HB3:=aA0 (HB2.out.trans hb);have HX3:=aA0 (HX2.out.keep hb);clear x0 x1 xl;obtain ⟨A3,k3,A4,k4,rfl,_,_,_,_,_,_⟩:=hp;have HA3:=aA0 ((Bel.refl w3).alloc (.cells #[.string prP.name,.slice A3 prP.vars.length k3,.slice A4 prP.rules.length k4] 31));have HY:=aA0 (Blk.new w3 #[.string prP.name,.slice A3 prP.vars.length k3,.slice A4 prP.rules.length k4] 31);have x0:=HX3.out.cell 0 (v := .slice A g.ids.length k) rfl;have x1:=HX3.out.cell 1 (v := .slice A2 g.ports.length k2) rfl;have xl:=HX3.out.lt;clear hb))
      | (go_at_call 10;go_must (refine (aPz _ g _ (HGV.out _ (HB3.out.trans HA3.out)) hlg HGK.out).mono ?_;rintro e w4 ⟨rfl,hb⟩;rw [<- HM.out];have HB4:=aA0 (HA3.out.trans hb);have HB4W:=aA0 hb;clear hb))
      | (go_at_call 8;go_must (refine (aC8 _ (HT.out _ (HB3.out.trans HB4.out))).mono ?_;rintro e w5 ⟨rfl,hb⟩;have HB5:=aA0 (HB4.out.trans hb);have HY5:=aA0 ((HY.out.keep HB4W.out).keep hb);have y0:=HY5.out.cell 0 (v := .string prP.name) rfl;have y1:=HY5.out.cell 1 (v := .slice A3 prP.vars.length k3) rfl;have y2:=HY5.out.cell 2 (v := .slice A4 prP.rules.length k4) rfl;have yl:=HY5.out.lt;have HX5:=aA0 (HX3.out.keep HB5.out);clear x0 x1 xl;have x0:=HX5.out.cell 0 (v := .slice A g.ids.length k) rfl;have x1:=HX5.out.cell 1 (v := .slice A2 g.ports.length k2) rfl;have xl:=HX5.out.lt;clear hb))
      | (go_at_call 11;go_must (refine (aHq _ prP _ g 2 _ _ _ (HP.out _ HB5.out) (HGV.out _ (HB3.out.trans HB5.out)) (HT.out _ (HB3.out.trans HB5.out)) aH1.2.2.2.1 hlg hK.out (by omega) (by omega)).mono ?_;rintro e w6 ⟨rfl,hb⟩;have HB6:=aA0 ((HB3.out.trans HB5.out).trans hb);clear hb)))
     go_ret;exact ⟨rfl,HB6.out⟩
end Go.Proofs.YtmoebklkkjbigaaGreatDoor

