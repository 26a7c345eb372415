/- Merged. -/
import Derived.Test.YtmoebklkkjbigaaGreatDoorZ14
import Derived.Test.YtmoebklkkjbigaaGreatDoorZ12
set_option linter.unusedSimpArgs false
set_option linter.unnecessarySimpa false
set_option linter.unusedVariables false
set_option maxRecDepth 100000
set_option maxHeartbeats 4000000
open Go.Proofs.Tryz

namespace Go.Proofs.YtmoebklkkjbigaaGreatDoor
open Go.RowKit
structure EOK (p:Prg) (es:List Term):Prop where
 ok:(aB9 es).ok
 terms:(aB9 es).terms=es
 arg:∀ t∈es,aM3 t p.vars.length=true
 bound:aC2 false (aB9 es)
 len:es.length<=1000
theorem aL7 (B:Nat) (p:Prg) (g:Graph) (vc:Value) (c:aA3) (v:Nat) (A:Option Addr) (ce:Nat) (es:List Term) (w:World) (hS:aJ8 w B p g) (hC:aD2 w vc c) (hT:aCa w A es.length es) (hs:SOK p g c v) (he:EOK p es) :
  Calls prog 122 #[.pointer (some ⟨B,0,none⟩),vc,.int .i64 v,.slice A es.length ce] w fun e w'=>e = .returned (.int .i64 (aBd g c v (-1) (aB9 es)))/\Bel w w':=by
 have HC:=aA0 hC;obtain ⟨AC,kc,rfl,_,_,_⟩:=hC;have HS:=aA0 hS;have HT:=aA0 hT;have HK:=aA0 hs;have HE:=aA0 he;have hlen:=he.len;clear hS hT hs he;go_enter func122,ntmps122;have HB:=(Bel.refl w).alloc (.cells #[.pointer (some ⟨B,0,none⟩),.slice AC c.length kc,.int .i64 v,.slice A es.length ce] 248)
 have HWK:Hid (aZl (w.alloc (.cells #[.pointer (some ⟨B,0,none⟩),.slice AC c.length kc,.int .i64 v,.slice A es.length ce] 248)) w.heap.size p g c v A ce es) :=
  ⟨B,AC,kc,Blk.new w _ _,HS.out.keep HB,HC.out.keep HB,aCa.keep HT.out HB⟩
 go_wp2_with (go_at_call 154;refine (bK8 p g c v HK.out (aB9 es) false (-1) _ _ _ es 0 _ HWK.out (At.whole HE.out.ok HE.out.terms) HE.out.arg hlen HE.out.bound aYs).mono ?_;rintro e w' ⟨rfl,hbb⟩;replace HB:=HB.trans hbb;clear hbb)
 go_ret;exact ⟨rfl,HB⟩
theorem aL6 (B:Nat) (p:Prg) (g:Graph) (vc:Value) (c:aA3) (v i:Nat) (w:World) (hS:aJ8 w B p g) (hC:aD2 w vc c) (hs:SOK p g c v) (hi:i<p.rules.length) (he:EOK p p.rules[i].guard) :
  Calls prog 121 #[.pointer (some ⟨B,0,none⟩),vc,.int .i64 v,.int .i64 i] w fun e w'=>e = .returned (.bool (aBd g c v (-1) (aB9 p.rules[i].guard) != 0))/\Bel w w':=by
 have HC:=aA0 hC;obtain ⟨AC,kc,rfl,_,_,_⟩:=hC;have HS:=aA0 hS;have HK:=aA0 hs;have HE:=aA0 he;obtain ⟨A1,k1,A2,k2,A3,k3,A4,k4,gb,hB,hP,_,_⟩:=hS;obtain ⟨A1',k1',A2',k2',eP,_,_,_,hR,_,_⟩:=hP;obtain ⟨⟨rfl,rfl⟩,rfl,rfl⟩:(A1=A1'/\k1=k1')/\A2=A2'/\k2=k2':=by simpa using eP
 have z2:=hB.cell 2 (v := .slice A2 p.rules.length k2) rfl;have zl:=hB.lt;obtain ⟨bR,oR,G,gc,S,sc,rfl,hbR,_,cg,_,hTG,_,_,_,_,_⟩:=hR.at_ i hi;have HTG:=aA0 hTG;have hdi:decide (i<p.rules.length)=true:=by simpa using hi
 clear eP hTG hs he hB;go_enter func121,ntmps121
 go_wp2_with (go_at_call 122;refine (aL7 B p g _ c v _ _ _ _ HS.out HC.out HTG.out HK.out HE.out).mono ?_;rintro e w' ⟨rfl,hbb⟩)
 go_ret;exact ⟨rfl,hbb⟩
theorem bHq {p:Prg} (hc:aC6 p=0) (hl:aCc p=true) {i:Nat} (hi:i<p.rules.length):EOK p p.rules[i].guard:=by
 obtain ⟨t1,t2,t4,t5⟩:=bEz hc (List.getElem_mem hi);have hgl:=(aEt ((aBl hl).2.2.2.2 _ (List.getElem_mem hi))).2.2.1;exact ⟨t1,t2,t4,t5,by omega⟩
theorem bHa (kind:Int) (b:Int × Int) (x:Int) (w:World) :
  Calls prog 123 #[.int .i64 kind,.agg #[.int .i64 b.1,.int .i64 b.2],.int .i64 x] w fun e w'=>e = .returned (.int .i64 (aIq kind b x))/\Bel w w':=by
 obtain ⟨lo,hi⟩:=b;have HF:Hid (aIq kind (lo,hi) x=if lo<=x/\x<=hi then x else if kind=3 then -1 else if x<lo then lo else hi):=rfl
 have HB:=(Bel.refl w).alloc (.cells #[.int .i64 lo,.int .i64 hi] 159);dsimp only
 by_cases h1:lo<=x/\x<=hi
 .rw [if_pos h1] at HF
  have d1:decide (lo<=x)=true:=by simp;omega
  have d2:decide (x<=hi)=true:=by simp;omega
  clear h1;go_enter func123,ntmps123;go_wp2;go_ret;exact ⟨aA9 HF.out.symm,HB⟩
 .rw [if_neg h1] at HF
  have d1:(decide (lo<=x)=true/\decide (x<=hi)=false)∨decide (lo<=x)=false:=by
   simp;omega
  clear h1
  by_cases h2:kind=3
  .rw [if_pos h2] at HF
   subst h2
   rcases d1 with ⟨d1,d2⟩ | d1
   all_goals
    go_enter func123,ntmps123;go_wp2;go_ret;exact ⟨aA9 HF.out.symm,HB⟩
  .rw [if_neg h2] at HF
   have hk:(kind==3)=false:=by simpa using h2
   clear h2
   by_cases h3:x<lo
   .rw [if_pos h3] at HF
    have d3:decide (x<lo)=true:=by simpa using h3
    have d1:decide (lo<=x)=false:=by simpa using h3
    clear h3;go_enter func123,ntmps123;go_wp2;go_ret;exact ⟨aA9 HF.out.symm,HB⟩
   .rw [if_neg h3] at HF
    have d3:decide (x<lo)=false:=by simpa using h3
    have d4:decide (lo<=x)=true:=by simp;omega
    have d2:decide (x<=hi)=false:=by
     rcases d1 with ⟨_,d2⟩ | d1
     .exact d2
     .rw [d4] at d1;cases d1
    clear h3 d1;go_enter func123,ntmps123;go_wp2;go_ret;exact ⟨aA9 HF.out.symm,HB⟩
def aO2 (p:Prg) (g:Graph) (A1:Option Addr) (k1:Nat) (A2:Option Addr) (k2 S:Nat) (AT:Option Addr) (kt:Nat):Array Value :=
 #[.string p.name,.slice A1 p.vars.length k1,.slice A2 p.rules.length k2,.pointer (some ⟨S,0,none⟩),.slice AT (aAb p g).length kt]
def aEo (w:World) (B:Nat) (p:Prg) (g:Graph):Prop :=
 ∃ A1 k1 A2 k2 S AT kt,Blk w B (aO2 p g A1 k1 A2 k2 S AT kt) 211 /\
  aK5 w (.agg #[.string p.name,.slice A1 p.vars.length k1,.slice A2 p.rules.length k2]) p/\aJ8 w S p g/\aHl w (.slice AT (aAb p g).length kt) (aAb p g)
theorem aEo.keep {w w':World} {B:Nat} {p:Prg} {g:Graph} (h:aEo w B p g) (k:Bel w w'):aEo w' B p g:=by
 obtain ⟨A1,k1,A2,k2,S,AT,kt,h1,h2,h3,h4⟩:=h;exact ⟨A1,k1,A2,k2,S,AT,kt,h1.keep k,h2.keep k,h3.keep k,h4.keep k⟩
def bOz (N:Nat) (w:World) (B:Nat) (p:Prg) (g:Graph) (v1 v2:Value):Prop:=∀ W,aC3 N w W->aK5 W v1 p->aB2 W v2 g->aEo W B p g
def bGo (p:Prg) (g:Graph) (v1 v2:Value) (w:World) (e:Ending) (w':World):Prop:=∃ B,e = .returned (.pointer (some ⟨B,0,none⟩))/\bOz w.heap.size w' B p g v1 v2/\Bel w w'
theorem aLz.keep {N:Nat} {w w':World} {B:Nat} {p:Prg} {g:Graph} {v1 v2:Value} (h:aLz N w B p g v1 v2) (k:Bel w w'):aLz N w' B p g v1 v2 :=
 fun W h1 h2=>h W (aC3.back ⟨h1,h2⟩ k).1 (aC3.back ⟨h1,h2⟩ k).2
theorem aLz.low {N M:Nat} {w:World} {B:Nat} {p:Prg} {g:Graph} {v1 v2:Value} (h:aLz N w B p g v1 v2) (hM:M<=N):aLz M w B p g v1 v2 :=
 fun W h1 h2=>h W h1 fun k hk=>h2 k (Nat.le_trans hM hk)
def bKi (p:Prg) (g:Graph) (w:World) (e:Ending) (w':World):Prop:=∃ B,e = .returned (.pointer (some ⟨B,0,none⟩))/\aEo w' B p g/\Bel w w'
theorem aMv (v1:Value) (p:Prg) (v2:Value) (g:Graph) (w:World) (h:aK5 w v1 p) (h2:aB2 w v2 g) (hc:aC6 p=0) (hg:GOK g) (hG:aBt g=true) :
  Calls prog 78 #[v1,v2] w (bGo p g v1 v2 w):=by
 have HPV:=aA0 (fun w' (k:Bel w w')=>h.keep k);have HGV:=aA0 (fun w' (k:Bel w w')=>h2.keep k);obtain ⟨A1,k1,A2,k2,rfl,_,_,_,_,_,_⟩:=h;obtain ⟨A3,k3,A4,k4,rfl,_,_,_,_,_,_⟩:=h2;have HW:=Bel.refl ((w.alloc (.cells #[.string p.name,.slice A1 p.vars.length k1,.slice A2 p.rules.length k2] 31)).alloc (.cells #[.slice A3 g.ids.length k3,.slice A4 g.ports.length k4] 25));have hcell:=aA0 (fun w' (kk:Bel ((w.alloc (.cells #[.string p.name,.slice A1 p.vars.length k1,.slice A2 p.rules.length k2] 31)).alloc (.cells #[.slice A3 g.ids.length k3,.slice A4 g.ports.length k4] 25)) w')=>aDh kk);have HC:=aA0 hc;have HG:=aA0 hg;have HGL:=aA0 hG;have HSC:Hid True:=trivial;have HT:Hid True:=trivial;clear hc hg hG;go_enter func78,ntmps78
 go_wp2_with fail
 replace HW:=HW.drew
 go_region_held3 (fun w'=>w'.cell? ⟨w.heap.size,0,none⟩=some (.string p.name)/\w'.cell? ⟨w.heap.size,1,none⟩=some (.slice A1 p.vars.length k1)/\w'.cell? ⟨w.heap.size,2,none⟩=some (.slice A2 p.rules.length k2)/\w'.cell? ⟨w.heap.size+1,0,none⟩=some (.slice A3 g.ids.length k3)/\w'.cell? ⟨w.heap.size+1,1,none⟩=some (.slice A4 g.ports.length k4)/\w.heap.size+1<w'.heap.size) (first | exact hcell.out _ HW | exact hcell.out _ (HW.alloc _)) (first
  | (go_simp;go_at_call 120;refine (aV1 _ p _ g _ (HPV.out _ (aA2 HW)) (HGV.out _ (aA2 HW)) HG.out).mono ?_;rintro e w' ⟨SB,rfl,_,hSC,_,hb⟩;replace HSC:=aA0 (aLz.low hSC (aA2 HW).size);(try replace HT:=aA0 (aM1.keep HT.out hb));replace HW:=HW.trans hb;clear hb hSC)
  | (go_simp;go_at_call 77;refine (aTi _ p _ g _ (HPV.out _ (aA2 HW)) (HGV.out _ (aA2 HW)) HC.out HG.out HGL.out).mono ?_;rintro e w' ⟨tv,rfl,htv,hb⟩;obtain ⟨AT,kt,rfl,_⟩:=(htv _ (aC3.refl _ _):aHl _ _ _);replace HT:=aA0 (aM1.low htv (aA2 HW).size);(try replace HSC:=aA0 (aLz.keep HSC.out hb));replace HW:=HW.trans hb;clear hb htv))
 go_wp2_with fail
 go_ret;have hb:=(Bel.refl w').alloc (.cells (aO2 p g A1 k1 A2 k2 SB AT kt) 211);have hs:=(aA2 HW).size;refine ⟨_,rfl,fun W hW h1 h2=>⟨A1,k1,A2,k2,SB,AT,kt,(hW.2 _ hs (by simp)).trans (Blk.new w' (aO2 p g A1 k1 A2 k2 SB AT kt) 211),h1,HSC.out W (hW.back hb).1 (hW.back hb).2 h1 h2,HT.out W (hW.back hb)⟩,aA2 (HW.trans hb)⟩
theorem aYh (v1:Value) (p:Prg) (v2:Value) (g:Graph) (w:World) (h:aK5 w v1 p) (h2:aB2 w v2 g) (hc:aC6 p=0) (hg:GOK g) (hG:aBt g=true) :
  Calls prog 78 #[v1,v2] w (bKi p g w) :=
 (aMv v1 p v2 g w h h2 hc hg hG).mono fun _ _ ⟨B,h1,h3,h4⟩=>⟨B,h1,h3 _ (aC3.refl _ _) (h.keep h4) (h2.keep h4),h4⟩
theorem aGb (B:Nat) (p:Prg) (g:Graph) (vc:Value) (c:aA3) (v:Nat) (w:World) (hM:aEo w B p g) (hC:aD2 w vc c) (hs:SOK p g c v) (hL:aCc p=true) :
  Calls prog 82 #[.pointer (some ⟨B,0,none⟩),vc,.int .i64 v] w fun e w'=>e = .returned (.int .i64 (aAm p.rules g c v))/\Bel w w':=by
 have HC:=aA0 (fun w' (k:Bel w w')=>hC.keep k);obtain ⟨AC,kc,rfl,_,_,_⟩:=hC;obtain ⟨A1,k1,A2,k2,S,AT,kt,hB,hP,hS,_⟩:=hM;have z2:=hB.cell 2 (v := .slice A2 p.rules.length k2) rfl;have z3:=hB.cell 3 (v := .pointer (some ⟨S,0,none⟩)) rfl;have zl:=hB.lt;have HB:=aA0 (fun w' (k:Bel w w')=>hB.keep k);have HS:=aA0 (fun w' (k:Bel w w')=>hS.keep k);have HK:=aA0 hs;have HE:=aA0 (fun (i:Nat) (hi:i<p.rules.length)=>bHq (aAt hs.fits).1 hL hi);have hr16:=(aBl hL).2.2.1;clear hB hS hs hL hP;have HW:=Bel.refl w;go_enter func82,ntmps82;go_wp2;clear z2 z3 zl
 go_loopg [7,14] p.rules.length (fun m _x z wr=>∃ i:Nat,i<=p.rules.length/\m=p.rules.length-i/\z = .int .i64 i/\Hid ((p.rules.take i).all (fun r => !(aEu g c v r.guard))=true)/\Bel w wr)
 case atStart=>exact ⟨0,by omega,rfl,rfl,rfl,HW⟩
 case round =>
  clear HW;obtain ⟨i,hi,rfl,rfl,HI,HW⟩:=hrel
  by_cases hlt:i<p.rules.length
  .have hd0:decide (i<p.rules.length)=true:=by simpa using hlt
   have z3:=(HB.out _ HW).cell 3 (v := .pointer (some ⟨S,0,none⟩)) rfl;have zl:=(HB.out _ HW).lt;cases hq:aEu g c v p.rules[i].guard with
   | true =>
    have HF:=aA0 (aXe hlt HI.out hq);have HQ:Hid ((aBd g c v (-1) (aB9 p.rules[i].guard) != 0)=true):=hq;clear hq
    go_wp2_with (go_at_call 121;refine (aL6 S p g _ c v i _ (HS.out _ HW) (HC.out _ HW) HK.out hlt (HE.out i hlt)).mono ?_;rintro e w' ⟨rfl,hb⟩;rw [HQ.out];replace HW:=HW.trans hb;clear hb)
    go_ret;exact ⟨aA9 HF.out.symm,HW⟩
   | false =>
    have HQ:Hid ((aBd g c v (-1) (aB9 p.rules[i].guard) != 0)=false):=hq;have HI2:=aA0 (aAp hlt HI.out (by rw [hq];rfl))
    clear hq
    go_wp2_with (go_at_call 121;refine (aL6 S p g _ c v i _ (HS.out _ HW) (HC.out _ HW) HK.out hlt (HE.out i hlt)).mono ?_;rintro e w' ⟨rfl,hb⟩;rw [HQ.out];replace HW:=HW.trans hb;clear hb z3 zl)
    go_roundg (p.rules.length-(i+1))
    case rel=>exact ⟨i+1,by omega,rfl,by go_num,HI2,HW⟩
    case measure=>omega
  .have hd0:decide (i<p.rules.length)=false:=by simpa using hlt
   have HF:Hid (aAm p.rules g c v = -1):=by
    refine bAa ?_
    have:=HI.out
    rwa [List.take_of_length_le (by omega)] at this
   go_wp2_with fail
   go_ret;exact ⟨aA9 HF.out.symm,HW⟩
end Go.Proofs.YtmoebklkkjbigaaGreatDoor

