/- Merged. -/
import Derived.Test.YtmifhmdghfbalaaGreatDoorZ38
import Derived.Test.YtmifhmdghfbalaaGreatDoorZ37
import Derived.BigQuiet
set_option linter.unusedSimpArgs false
set_option linter.unnecessarySimpa false
set_option linter.unusedVariables false
set_option maxRecDepth 100000
set_option maxHeartbeats 8000000
open Go.Proofs.Tryz

namespace Go.Proofs.YtmifhmdghfbalaaGreatDoor
open Go.RowKit
def aKd (w:World) (base:Nat) (V:Nat->List Int) (k:Nat) (hs:List Value):Prop :=
 hs.length=k/\∀ u,u<k->∃ (X:Option Addr) (c:Nat),hs[u]?=some (Value.slice X (V u).length c)/\w.ownsRow base 3 1 (.slice X (V u).length c) (V u).length ((V u).map (Value.int .i64))
theorem aKd.nil (w:World) (base:Nat) (V:Nat->List Int):aKd w base V 0 []:=⟨rfl,fun u h=>by omega⟩
theorem aKd.keep {w w':World} {base k:Nat} {V:Nat->List Int} {hs:List Value} (h:aKd w base V k hs) (b:Bel w w'):aKd w' base V k hs :=
 ⟨h.1,fun u hu=>by obtain ⟨X,c,h1,h2⟩:=h.2 u hu;exact ⟨X,c,h1,b.owns h2⟩⟩
theorem aKd.push {w:World} {base k:Nat} {V:Nat->List Int} {hs:List Value} (h:aKd w base V k hs) {X:Option Addr} {c:Nat} (hx:w.ownsRow base 3 1 (.slice X (V k).length c) (V k).length ((V k).map (Value.int .i64))):aKd w base V (k+1) (hs++[.slice X (V k).length c]):=by
 refine ⟨by simp [h.1],fun u hu=>?_⟩
 by_cases hk:u<k
 .obtain ⟨Y,d,h1,h2⟩:=h.2 u hk
  exact ⟨Y,d,by rw [List.getElem?_append_left (by rw [h.1];exact hk)];exact h1,h2⟩
 .obtain rfl:u=k:=by omega
  exact ⟨X,c,by rw [List.getElem?_append_right (by rw [h.1];exact Nat.le_refl _),h.1];simp,hx⟩
theorem aKd.grown {w w':World} {base k n:Nat} {V:Nat->List Int} {hs:List Value} {vH:Value} {xs:List Value} (h:aKd w base V k hs) (hH:w.ownsRow base 26 1 vH n xs) (hg:w.grownBy w' vH.ownBlock):aKd w' base V k hs :=
 ⟨h.1,fun u hu=>by
  obtain ⟨X,c,h1,h2⟩:=h.2 u hu;exact ⟨X,c,h1,aKv h2 (Gr.grown hg) (aCq hH h2 (by decide))⟩⟩
theorem aKd.read {w:World} {base k c:Nat} {V:Nat->List Int} {hs:List Value} {H:Option Addr} (h:aKd w base V k hs) (hH:w.ownsRow base 26 1 (.slice H k c) k hs):aMd w H k ((List.range k).map V):=by
 refine ⟨by simp,fun u x hx=>?_⟩
 have hu:u<k:=by have:=(List.getElem?_eq_some_iff.1 hx).1;simpa using this
 obtain rfl:V u=x:=by simpa [hu] using hx
 obtain ⟨X,d,h1,h2⟩:=h.2 u hu;obtain ⟨q,e1,_,q3,q4,_⟩:=aBv hH h1;obtain ⟨c1,c2⟩:=aDp h2;exact ⟨q,0,e1,q3,X,d,by simpa using q4,aGj h2,c1,c2⟩
theorem aKd.box {w:World} {base k:Nat} {V:Nat->List Int} {hs:List Value} (h:aKd w base V k hs) {a:Addr} (ha:a.block<base) (u:Value):aKd (w.setCell a u) base V k hs :=
 ⟨h.1,fun q hq=>by obtain ⟨X,c,h1,h2⟩:=h.2 q hq;exact ⟨X,c,h1,aB4 h2 ha u⟩⟩
def aFx (p:Prg) (g:Graph) (kind:Int) (legit:List Bool) (l:List (List Term)):Int :=
 if (aBj p g kind).2≠0 then (aBj p g kind).2 else if (aD6 p l&&decide (legit.length=(aBj p g kind).1.enabled.length))=false then 7 else 0
def aWb (p:Prg) (g:Graph) (kind:Int) (legit:List Bool) (l:List (List Term)) (w:World) (e:Ending) (w':World):Prop :=
 ∃ RE nE cE RA nA cA H nH cH,e = .returned (.tuple #[.agg #[.slice RE nE cE,.slice RA nA cA],.slice H nH cH,.int .i64 (aFx p g kind legit l)]) /\
  (aFx p g kind legit l=0->aCo w' (.agg #[.slice RE nE cE,.slice RA nA cA]) (aBj p g kind).1/\nH=legit.length/\aMd w' H nH ((List.range nH).map (aDz p g l)))/\Bel w w'
theorem aS0 (v:Value) (s:Spc) (AL:Option Addr) (cL:Nat) (legit:List Bool) (AV:Option Addr) (cV n k:Nat) (V:Nat->List Int) (w:World) (h:aCo w v s) (hB:aDa w AL legit.length legit) (hV:aMd w AV n ((List.range n).map V)) (hn:n=legit.length) (hk:k<n) (hka:k<s.arcs.length)
  (hto:∀ x∈s.arcs[k],0<=x.2/\x.2<(n:Int)) (hl:s.arcs[k].length<=1000) (hvl:∀ u,(V u).length<=1000) :
  Calls prog 84 #[v,.slice AL legit.length cL,.slice AV n cV,.int .i64 (k:Int)] w fun e w'=>e = .returned (.bool (aFy legit s.arcs V k))/\Bel w w':=by
 have HF:Hid (aFy legit s.arcs V k=(decide (0<s.arcs[k].length)&&s.arcs[k].all fun x=>legit.getD x.2.toNat false||aBx (V x.2.toNat) (V k))):=by show _=_;unfold aFy;rw [aA7 hka]
 have HBR:=aA1 (fun w' (k:Bel w w')=>hB.keep k);have HVR:=aA1 (fun w' (k:Bel w w')=>hV.keep k);obtain ⟨AE,cE,AA,cA,rfl,_,hA,_,_,_,_⟩:=h;have HW:=Bel.refl (w.alloc (.cells #[.slice AE s.enabled.length cE,.slice AA s.arcs.length cA] 70));obtain ⟨bA,oA,R,rc,rfl,hbA,x1,hR,_,_⟩:=hA.at_ k hka;have HR:=aA1 (fun w' (k:Bel w w')=>hR.keep k);have X1:=aA1 x1;have HTO:=aA1 hto;have HVL:=aA1 hvl;have hkI:(k:Int)<(s.arcs.length:Int):=by omega
 have hknI:(k:Int)<(n:Int):=by omega
 have HNL:=aA1 hn;clear hA hR x1 hB hV hto hvl hn;generalize s.arcs[k]=l at *;go_enter func84,ntmps84
 go_wp2_with fail
 go_loopg [9] l.length (fun m z wr=>∃ i:Nat,i<=l.length/\m=l.length-i/\z = .int .i64 (i:Int)/\Hid (((l.drop i).all fun x=>legit.getD x.2.toNat false||aBx (V x.2.toNat) (V k))=l.all fun x=>legit.getD x.2.toNat false||aBx (V x.2.toNat) (V k))/\Bel (w.alloc (.cells #[.slice AE s.enabled.length cE,.slice (some ⟨bA,oA,none⟩) s.arcs.length cA] 70)) wr)
 case atStart=>exact ⟨0,by omega,rfl,rfl,rfl,HW⟩
 case round =>
  clear HW;obtain ⟨i,hi,rfl,rfl,HQ,HW⟩:=hrel;have q1:=aA9 HW 1 (v := .slice (some ⟨bA,oA,none⟩) s.arcs.length cA) rfl;have ql:=aAz HW;have x1:=((aA3 HW).cell hbA).trans X1.out;have xl:=Nat.lt_of_lt_of_le hbA (aA3 HW).size
  by_cases hlt:i<l.length
  .have hd0:decide (i<l.length)=true:=by simpa using hlt
   obtain ⟨b,o,rfl,hbl,c0,c1⟩:=(HR.out _ (aA3 HW)).at_ i hlt;have ht:=HTO.out _ (List.getElem_mem hlt);rw [List.drop_eq_getElem_cons hlt,List.all_cons] at HQ;obtain ⟨x,hx⟩:∃ x,l[i]=x:=⟨_,rfl⟩;rw [hx] at c0 c1 HQ ht;clear hx;obtain ⟨T,U⟩:=x;dsimp only at c0 c1 ht HQ;obtain ⟨t,rfl⟩:=Int.eq_ofNat_of_zero_le ht.1;rw [Int.toNat_natCast] at HQ;have htn:t<n:=by omega
   have htl:t<legit.length:=by have:=HNL.out;omega
   have htI:(t:Int)<(n:Int):=by omega
   have htlI:(t:Int)<(legit.length:Int):=by have:=HNL.out;omega
   obtain ⟨bL,oL,rfl,hbL,d0⟩:=(HBR.out _ (aA3 HW)).at_ t htl;rw [aA7 htl] at HQ;obtain ⟨lt,hlt2⟩:∃ lt,legit[t]=lt:=⟨_,rfl⟩;have HLT:=aA1 hlt2;rw [hlt2] at HQ d0;clear hlt2;cases lt with
   | true =>
    rw [Bool.true_or,Bool.true_and] at HQ
    go_wp2_with fail
    go_quiet (fail)
    go_wp2_with fail
    go_roundg (l.length-(i+1))
    case rel=>exact ⟨i+1,by omega,rfl,by go_num,HQ,HW.drewN _⟩
    case measure=>omega
   | false =>
    rw [Bool.false_or] at HQ;have hlV:((List.range n).map V).length=n:=by simp
    obtain ⟨bL',oL',hbe0,hbL0,d1⟩:=(HBR.out _ (Bel.refl w)).at_ t htl;obtain ⟨rfl,rfl⟩:bL=bL'/\oL=oL':=by simpa using hbe0
    rw [HLT.out] at d1;obtain ⟨bv,ov,Rt,rt,rfl,hbv,e0,hRt,_,_⟩:=(HVR.out _ (Bel.refl w)).at_ t (by rw [hlV];exact htn)
    obtain ⟨bv2,ov2,Rk,rk,hbe,_,e1,hRk,_,_⟩:=(HVR.out _ (Bel.refl w)).at_ k (by rw [hlV];exact hk)
    obtain ⟨rfl,rfl⟩:bv=bv2/\ov=ov2:=by simpa using hbe
    simp only [List.getElem_map,List.getElem_range] at e0 e1 hRt hRk
    have HRT:=aA1 (fun w' (kk:Bel w w')=>hRt.keep kk);have HRK:=aA1 (fun w' (kk:Bel w w')=>hRk.keep kk);have hcell:=aA1 (fun w' (kk:Bel (w.alloc (.cells #[.slice AE s.enabled.length cE,.slice (some ⟨bA,oA,none⟩) s.arcs.length cA] 70)) w')=>show w'.cell? ⟨bL,oL+t,none⟩=some (.bool false)/\w'.cell? ⟨bv,ov+t,none⟩=some (.slice Rt (V t).length rt)/\w'.cell? ⟨bv,ov+k,none⟩=some (.slice Rk (V k).length rk)/\bL<w'.heap.size/\bv<w'.heap.size from ⟨((aA3 kk).cell hbL0).trans d1,((aA3 kk).cell hbv).trans e0,((aA3 kk).cell hbv).trans e1,Nat.lt_of_lt_of_le hbL0 (aA3 kk).size,Nat.lt_of_lt_of_le hbv (aA3 kk).size⟩)
    have hvt:=HVL.out t;obtain ⟨lv,hlv⟩:∃ lv,aBx (V t) (V k)=lv:=⟨_,rfl⟩;rw [hlv] at HQ;have HLV:=aA1 hlv;clear hlv hRt hRk e0 e1 d1 d0 hbe hbe0;cases lv with
    | true =>
     rw [Bool.true_and] at HQ
     go_wp2_with fail
     replace HW:=HW.drew
     go_region_held3 (fun w'=>w'.cell? ⟨bL,oL+t,none⟩=some (.bool false)/\w'.cell? ⟨bv,ov+t,none⟩=some (.slice Rt (V t).length rt)/\w'.cell? ⟨bv,ov+k,none⟩=some (.slice Rk (V k).length rk)/\bL<w'.heap.size/\bv<w'.heap.size) (exact hcell.out _ HW) ((go_simp;go_at_call 44;refine (aGc Rt rt (V t) Rk rk (V k) _ (HRT.out _ (aA3 HW)) (HRK.out _ (aA3 HW)) (by omega)).mono ?_;rintro e w' ⟨rfl,hb⟩;rw [HLV.out];replace HW:=HW.trans hb;clear hb))
     go_wp2_with fail
     go_roundg (l.length-(i+1))
     case rel=>exact ⟨i+1,by omega,rfl,by go_num,HQ,HW⟩
     case measure=>omega
    | false =>
     rw [Bool.false_and] at HQ
     go_wp2_with fail
     replace HW:=HW.drew
     go_region_held3 (fun w'=>w'.cell? ⟨bL,oL+t,none⟩=some (.bool false)/\w'.cell? ⟨bv,ov+t,none⟩=some (.slice Rt (V t).length rt)/\w'.cell? ⟨bv,ov+k,none⟩=some (.slice Rk (V k).length rk)/\bL<w'.heap.size/\bv<w'.heap.size) (exact hcell.out _ HW) ((go_simp;go_at_call 44;refine (aGc Rt rt (V t) Rk rk (V k) _ (HRT.out _ (aA3 HW)) (HRK.out _ (aA3 HW)) (by omega)).mono ?_;rintro e w' ⟨rfl,hb⟩;rw [HLV.out];replace HW:=HW.trans hb;clear hb))
     go_wp2_with fail
     go_ret;exact ⟨aA2 (by rw [HF.out,<- HQ.out,Bool.and_false]),aA3 HW⟩
  .have hd0:decide (i<l.length)=false:=by simpa using hlt
   obtain rfl:i=l.length:=by omega
   rw [List.drop_length] at HQ;have hall:(l.all fun x=>legit.getD x.2.toNat false||aBx (V x.2.toNat) (V k))=true:=by rw [<- HQ.out];rfl
   have hdd:decide ((0:Int)<(l.length:Int))=decide (0<l.length):=by rw [Bool.eq_iff_iff];simp
   obtain ⟨dd,hdd2⟩:∃ dd,decide (0<l.length)=dd:=⟨_,rfl⟩;rw [hdd2] at hdd HF;rw [hall] at HF;have HDD:=aA1 hdd2;clear hdd2 hall
   go_wp2_with fail
   go_ret;exact ⟨aA2 (by rw [HF.out,Bool.and_true];first | exact HDD.out | exact hdd),aA3 HW⟩
theorem bHs:(prog.info? 26).map (fun i=>(i.zero,i.size,i.bytes))=some (some (.slice none 0 0),1,24):=by kernel_rfl
theorem aS5 (v1:Value) (p:Prg) (v2:Value) (g:Graph) (kind:Int) (AL:Option Addr) (cL:Nat) (legit:List Bool) (A:Option Addr) (ca:Nat) (l:List (List Term)) (w:World) (h:aE0 w v1 p) (h2:aAl w v2 g) (hTm:aAu w A l.length l)
  (hL:aAt p=true) (hG:aB3 g=true) (hl:l.length<=10) (he:∀ e∈l,e.length<=250) (hfew:(aAs p g).2=0->aC7 p g<=200/\g.ports.length<=5) :
  Calls prog 83 #[v1,v2,.int .i64 kind,.slice AL legit.length cL,.slice A l.length ca] w (aWb p g kind legit l w):=by
 have HPV:=aA1 (fun w' (k:Bel w w')=>h.keep k);have HGV:=aA1 (fun w' (k:Bel w w')=>h2.keep k);have HTR:=aA1 (fun w' (k:Bel w w')=>hTm.keep k);obtain ⟨A1,k1,A2,k2,rfl,_,_,_,_,_,_⟩:=h;obtain ⟨A3,k3,A4,k4,rfl,_,_,_,_,_,_⟩:=h2;have HL:=aA1 hL;have HGL:=aA1 hG;have HFW:=aA1 hfew;have HLE:=aA1 he;have HF:Hid (aFx p g kind legit l=if (aBj p g kind).2≠0 then (aBj p g kind).2 else if (aD6 p l&&decide (legit.length=(aBj p g kind).1.enabled.length))=false then 7 else 0):=rfl
 have hbo:=aUt (p:=p) (g:=g) (kind:=kind);obtain ⟨bd,hbd0⟩:∃ bd,aBj p g kind=bd:=⟨_,rfl⟩;obtain ⟨s,ee⟩:=bd;rw [hbd0] at HF hbo;have HBO:=aA1 hbo;have HBF:=aA1 hbd0;have HW:=Bel.refl ((w.alloc (.cells #[.string p.name,.slice A1 p.vars.length k1,.slice A2 p.rules.length k2] 25)).alloc (.cells #[.slice A3 g.ids.length k3,.slice A4 g.ports.length k4] 29));have HX0:Bel w (((w.alloc (.cells #[.string p.name,.slice A1 p.vars.length k1,.slice A2 p.rules.length k2] 25)).alloc (.cells #[.slice A3 g.ids.length k3,.slice A4 g.ports.length k4] 29)).alloc (.cells #[.slice none 0 0,.slice none 0 0] 70)):=(aA0 HW).alloc _
 have HSB:Hid (Blk (((w.alloc (.cells #[.string p.name,.slice A1 p.vars.length k1,.slice A2 p.rules.length k2] 25)).alloc (.cells #[.slice A3 g.ids.length k3,.slice A4 g.ports.length k4] 29)).alloc (.cells #[.slice none 0 0,.slice none 0 0] 70)) (w.heap.size+1+1) #[.slice none 0 0,.slice none 0 0] 70):=by
  have:=Blk.new ((w.alloc (.cells #[.string p.name,.slice A1 p.vars.length k1,.slice A2 p.rules.length k2] 25)).alloc (.cells #[.slice A3 g.ids.length k3,.slice A4 g.ports.length k4] 29)) #[.slice none 0 0,.slice none 0 0] 70;rw [World.size_alloc,World.size_alloc] at this;exact this
 replace HW:=HW.alloc (.cells #[.slice none 0 0,.slice none 0 0] 70);clear hTm hL hG he hfew hbo hbd0
 by_cases h1:ee=0
 .rw [if_neg (by simpa using h1)] at HF
  subst h1;cases hv:aD6 p l with
  | false =>
   rw [hv,Bool.false_and,if_pos rfl] at HF;have HV:=aA1 hv;clear hv;go_enter func83,ntmps83
   go_wp2_with (first | (go_at_call 45;have hbd:=aFt _ p _ g kind _ (HPV.out _ (aA0 HW)) (HGV.out _ (aA0 HW)) HL.out HGL.out HFW.out;rw [HBF.out] at hbd;refine hbd.mono ?_;rintro e w1 ⟨vS,rfl,hS,hb⟩;obtain ⟨AE,cE,AA,cA,rfl,_⟩:=(hS.now:aCo _ _ _);have HX1:=HX0.trans hb;have HRB:=aA1 ((Blk.keep HSB.out hb).alloc (.cells #[.slice AE s.enabled.length cE,.slice AA s.arcs.length cA] 70));have HBN:=aA1 (Blk.new w1 #[.slice AE s.enabled.length cE,.slice AA s.arcs.length cA] 70);have HSG:=aA1 (hS.agr (Agr.alloc _ w1 (.cells #[.slice AE s.enabled.length cE,.slice AA s.arcs.length cA] 70)));replace HX1:=HX1.alloc (.cells #[.slice AE s.enabled.length cE,.slice AA s.arcs.length cA] 70);clear hS hbd;replace HW:=HW.trans hb;clear hb;(try clear p0 p1 p2 g0 g1 gsz);obtain ⟨p0,p1,p2,g0,g1,gsz⟩:=aA6 HW;replace HW:=HW.alloc (.cells #[.slice AE s.enabled.length cE,.slice AA s.arcs.length cA] 70);clear p0 p1 p2 g0 g1 gsz;obtain ⟨p0,p1,p2,g0,g1,gsz⟩:=aA6 HW;have n0:=HBN.out.cell 0 (v := .slice AE s.enabled.length cE) rfl;have n1:=HBN.out.cell 1 (v := .slice AA s.arcs.length cA) rfl;have nl:=HBN.out.lt;have z0:=HRB.out.cell 0 (v := .slice none 0 0) rfl;have z1:=HRB.out.cell 1 (v := .slice none 0 0) rfl;have f0:=HRB.out.frozen 0;have f1:=HRB.out.frozen 1;have lb:=HRB.out.lt) | (go_at_call 50;refine (aBa _ p A ca l _ (HPV.out _ (aA0 HW)) (HTR.out _ (aA0 HW)) HL.out (by omega) (fun e he=>by have:=HLE.out e he;omega)).mono ?_;rintro e w2 ⟨rfl,hb⟩;rw [HV.out];have HRB2:=aA1 (Blk.keep HRB.out hb);have HBN2:=aA1 (Blk.keep HBN.out hb);have HSG2:=aA1 (HSG.out.agr (Agr.bel' hb));replace HX1:=HX1.trans hb;clear n0 n1 nl z0 z1 f0 f1 lb;replace HW:=HW.trans hb;clear hb;(try clear p0 p1 p2 g0 g1 gsz);obtain ⟨p0,p1,p2,g0,g1,gsz⟩:=aA6 HW;have n0:=HBN2.out.cell 0 (v := .slice AE s.enabled.length cE) rfl;have n1:=HBN2.out.cell 1 (v := .slice AA s.arcs.length cA) rfl;have nl:=HBN2.out.lt;have z0:=HRB2.out.cell 0 (v := .slice none 0 0) rfl;have z1:=HRB2.out.cell 1 (v := .slice none 0 0) rfl;have f0:=HRB2.out.frozen 0;have f1:=HRB2.out.frozen 1;have lb:=HRB2.out.lt))
   have zz:=(Blk.set (Blk.set HRB2.out 0 (.slice none 0 0)) 1 (.slice none 0 0));have y0:=Blk.cell zz 0 (v := .slice none 0 0) (by rfl)
   have y1:=Blk.cell zz 1 (v := .slice none 0 0) (by rfl)
   refine bodyPost_ret (v := .tuple #[.agg #[.slice none 0 0,.slice none 0 0],.slice none 0 0,.int .i64 7]) (by simp [results,Tryz.results83,go_sem,y0,y1];try go_simp) rfl ?_
   unfold aWb;rw [HF.out];exact ⟨none,0,0,none,0,0,none,0,0,rfl,(fun h0=>by cases h0),(HX1.setCell (by simp;omega) _).setCell (by simp;omega) _⟩
  | true =>
   rw [hv,Bool.true_and] at HF;have HV:=aA1 hv
   by_cases hn:legit.length=s.enabled.length
   .rw [decide_eq_true hn,if_neg (by decide)] at HF
    obtain ⟨n,hse,hsz,hfz,hkd,hn1,hn2,h5⟩:=HBO.out rfl HFW.out;dsimp only at hse;have HFZ:=aA1 hfz;have HSZ:=aA1 hsz;have hnn:n=legit.length:=by rw [hn,hse];exact (aG5 p g n).symm
    subst hnn;have HEO:=aA1 (fun e he=>aGn ((aCk hv).2.2.2 e he));have HCK:Hid (∀ k:Nat,k<legit.length->aCp p g (aBp p g k)=0):=fun k hk=>aEr hfz (by rw [hsz];omega)
    have HKS:Hid (∀ k:Nat,k<legit.length->(k:Int)<aC7 p g):=fun k hk=>by rw [hsz];omega
    have d1:((legit.length:Int) != (s.enabled.length:Int))=false:=by simp;omega
    have d2:(legit.length != s.enabled.length)=false:=by simpa using hn
    obtain ⟨i0,hi0,hz0,hz1,hz2⟩:=info_parts bHs;clear hse hsz hfz hv hn;go_enter func83,ntmps83
    go_wp2_with (first | (go_at_call 45;have hbd:=aFt _ p _ g kind _ (HPV.out _ (aA0 HW)) (HGV.out _ (aA0 HW)) HL.out HGL.out HFW.out;rw [HBF.out] at hbd;refine hbd.mono ?_;rintro e w1 ⟨vS,rfl,hS,hb⟩;obtain ⟨AE,cE,AA,cA,rfl,_⟩:=(hS.now:aCo _ _ _);have HX1:=HX0.trans hb;have HRB:=aA1 ((Blk.keep HSB.out hb).alloc (.cells #[.slice AE s.enabled.length cE,.slice AA s.arcs.length cA] 70));have HBN:=aA1 (Blk.new w1 #[.slice AE s.enabled.length cE,.slice AA s.arcs.length cA] 70);have HSG:=aA1 (hS.agr (Agr.alloc _ w1 (.cells #[.slice AE s.enabled.length cE,.slice AA s.arcs.length cA] 70)));replace HX1:=HX1.alloc (.cells #[.slice AE s.enabled.length cE,.slice AA s.arcs.length cA] 70);clear hS hbd;replace HW:=HW.trans hb;clear hb;(try clear p0 p1 p2 g0 g1 gsz);obtain ⟨p0,p1,p2,g0,g1,gsz⟩:=aA6 HW;replace HW:=HW.alloc (.cells #[.slice AE s.enabled.length cE,.slice AA s.arcs.length cA] 70);clear p0 p1 p2 g0 g1 gsz;obtain ⟨p0,p1,p2,g0,g1,gsz⟩:=aA6 HW;have n0:=HBN.out.cell 0 (v := .slice AE s.enabled.length cE) rfl;have n1:=HBN.out.cell 1 (v := .slice AA s.arcs.length cA) rfl;have nl:=HBN.out.lt;have z0:=HRB.out.cell 0 (v := .slice none 0 0) rfl;have z1:=HRB.out.cell 1 (v := .slice none 0 0) rfl;have f0:=HRB.out.frozen 0;have f1:=HRB.out.frozen 1;have lb:=HRB.out.lt) | (go_at_call 50;refine (aBa _ p A ca l _ (HPV.out _ (aA0 HW)) (HTR.out _ (aA0 HW)) HL.out (by omega) (fun e he=>by have:=HLE.out e he;omega)).mono ?_;rintro e w2 ⟨rfl,hb⟩;rw [HV.out];have HRB2:=aA1 (Blk.keep HRB.out hb);have HBN2:=aA1 (Blk.keep HBN.out hb);have HSG2:=aA1 (HSG.out.agr (Agr.bel' hb));replace HX1:=HX1.trans hb;clear n0 n1 nl z0 z1 f0 f1 lb;replace HW:=HW.trans hb;clear hb;(try clear p0 p1 p2 g0 g1 gsz);obtain ⟨p0,p1,p2,g0,g1,gsz⟩:=aA6 HW;have n0:=HBN2.out.cell 0 (v := .slice AE s.enabled.length cE) rfl;have n1:=HBN2.out.cell 1 (v := .slice AA s.arcs.length cA) rfl;have nl:=HBN2.out.lt;have z0:=HRB2.out.cell 0 (v := .slice none 0 0) rfl;have z1:=HRB2.out.cell 1 (v := .slice none 0 0) rfl;have f0:=HRB2.out.frozen 0;have f1:=HRB2.out.frozen 1;have lb:=HRB2.out.lt))
    clear n0 n1 nl z0 z1 f0 f1 lb p0 p1 p2 g0 g1 gsz;have HW2:=aA1 HW;have HWX:=Bel.refl w2;clear HW
    go_loopg [15,16] legit.length (fun m x z wr=>∃ (k:Nat) (R:Option Addr) (rc:Nat) (hs:List Value),k<=legit.length/\m=legit.length-k/\x = .slice R k rc/\z = .int .i64 (k:Int)/\Hid (wr.ownsRow w2.heap.size 26 1 (.slice R k rc) k hs)/\Hid (aKd wr w2.heap.size (aDz p g l) k hs)/\Bel w2 wr)
    case atStart=>exact ⟨0,none,0,[],by omega,rfl,rfl,rfl,World.ownsRow_nil _ _ _ _,aKd.nil _ _ _,HWX⟩
    case round =>
     clear HWX;obtain ⟨k,R,rc,hs,hk,rfl,rfl,rfl,HO,HVC,HBI⟩:=hrel
     by_cases hlt:k<legit.length
     .have hd0:decide (k<legit.length)=true:=by simpa using hlt
      have hm:=HCK.out k hlt;have HKN:=aA1 (HKS.out k hlt);have hk2:k<=32768:=by omega
      obtain ⟨c,hc⟩:∃ c,aBp p g k=c:=⟨_,rfl⟩;have HVK:Hid (aDz p g l k=aPj g c l):=by show _=_;unfold aDz;rw [hc]
      have HCK2:=aA1 hc;rw [hc] at hm;have HM:=aA1 hm;have HCLN:=aA1 (aCa hm);have hcell:=aA1 (fun w' (kk:Bel w2 w')=>show (fun w'=>w'.cell? ⟨w.heap.size,0,none⟩=some (.string p.name)/\w'.cell? ⟨w.heap.size,1,none⟩=some (.slice A1 p.vars.length k1)/\w'.cell? ⟨w.heap.size,2,none⟩=some (.slice A2 p.rules.length k2)/\w'.cell? ⟨w.heap.size+1,0,none⟩=some (.slice A3 g.ids.length k3)/\w'.cell? ⟨w.heap.size+1,1,none⟩=some (.slice A4 g.ports.length k4)/\w.heap.size+1<w'.heap.size) w' from aA6 ((HW2.out.trans kk)))
      clear hm hc
      go_wp2_with fail
      replace HBI:=HBI.drew;replace HO:=aA1 (show World.ownsRow _ _ _ _ _ _ _ from ((Bel.refl wr).drew).owns HO.out)
      replace HVC:=aA1 (HVC.out.keep ((Bel.refl wr).drew))
      go_region_held3 (fun w'=>w'.cell? ⟨w.heap.size,0,none⟩=some (.string p.name)/\w'.cell? ⟨w.heap.size,1,none⟩=some (.slice A1 p.vars.length k1)/\w'.cell? ⟨w.heap.size,2,none⟩=some (.slice A2 p.rules.length k2)/\w'.cell? ⟨w.heap.size+1,0,none⟩=some (.slice A3 g.ids.length k3)/\w'.cell? ⟨w.heap.size+1,1,none⟩=some (.slice A4 g.ports.length k4)/\w.heap.size+1<w'.heap.size) (first | exact hcell.out _ HBI | exact hcell.out _ (HBI.alloc _) | exact hcell.out _ hb6) (first
       | (go_simp;go_at_call 88;refine (aRz _ p _ g k _ (HPV.out _ (aA0 ((HW2.out.trans HBI)))) (HGV.out _ (aA0 ((HW2.out.trans HBI)))) HL.out HGL.out HFZ.out HKN.out hk2).mono ?_;rintro e w4 ⟨gb,cap,bs,rfl,hR,hb⟩;rw [HCK2.out] at hR;have hcv:=hR.conf;rw [HCLN.out] at hcv;have HCV:=aA1 (fun w' (kk:Bel w4 w')=>hcv.keep kk);replace HO:=aA1 (hb.owns HO.out);replace HVC:=aA1 (HVC.out.keep hb);replace HBI:=HBI.trans hb;clear hR hcv hb)
       | (go_simp;go_at_call 105;refine (aU3 p _ g _ c A ca l _ (HGV.out _ (aA0 ((HW2.out.trans HBI)))) (HCV.out _ (Bel.refl _)) (HTR.out _ (aA0 ((HW2.out.trans HBI)))) HM.out HEO.out hl).mono ?_;rintro e w5 ⟨X,xc,rfl,hX,hb⟩;rw [<- HVK.out] at hX ⊢;have HXO:=aA1 (aGr hX HBI.size);replace HO:=aA1 (hb.owns HO.out);replace HVC:=aA1 (HVC.out.keep hb);replace HBI:=HBI.trans hb;clear hX hb)
       | (refine aDd _ rfl (.tmp 47) (.tmp 55) 30 rfl w2.heap.size 26 i0 (.slice none 0 0) 1 24 underlying30 hi0 hz0 hz1 hz2 rfl (by decide) R k rc hs (by first | (simp [Act.eval];done) | (simp [Act.eval,Act.put];done)) (HO.out.alloc _) w5.heap.size #[.slice X (aDz p g l k).length xc] 26 (0,0) (by first | (simp [Act.eval];done) | (simp [Act.eval,Act.put];done)) (aBr _ _) rfl (aJ1 _ _ _) (by unfold maxLen;omega) (by omega) (by have:=HBI.size;simp;omega) ?_;intro R6 c6 w6 hown6 hgr6 _;have hb6:Bel w2 w6:=(HBI.alloc _).pushB (HO.out.alloc _) (Nat.le_refl _) hgr6;have HG6:=aA1 hgr6;have HO6:=aA1 hown6;clear hown6 hgr6))
      have HV6:=aA1 (((HVC.out.keep ((Bel.refl w5).alloc (.cells #[.slice X (aDz p g l k).length xc] 26))).grown (HO.out.alloc (.cells #[.slice X (aDz p g l k).length xc] 26)) HG6.out).push (aKv (HXO.out.alloc (.cells #[.slice X (aDz p g l k).length xc] 26)) (Gr.grown HG6.out) (aCq (HO.out.alloc (.cells #[.slice X (aDz p g l k).length xc] 26)) (HXO.out.alloc (.cells #[.slice X (aDz p g l k).length xc] 26)) (by decide))))
      go_wp2_with fail
      go_roundg (legit.length-(k+1))
      case rel=>exact ⟨k+1,R6,c6,hs++[.slice X (aDz p g l k).length xc],by omega,rfl,rfl,by go_num,HO6,HV6,hb6⟩
      case measure=>omega
     .have hd0:decide (k<legit.length)=false:=by simpa using hlt
      obtain rfl:k=legit.length:=by omega
      have HRB3:=aA1 (Blk.keep HRB2.out HBI);have HBN3:=aA1 (Blk.keep HBN2.out HBI);have q0:=HRB3.out.cell 0 (v := .slice none 0 0) rfl;have q1:=HRB3.out.cell 1 (v := .slice none 0 0) rfl;have qf0:=HRB3.out.frozen 0;have qf1:=HRB3.out.frozen 1;have ql:=HRB3.out.lt;have s0:=HBN3.out.cell 0 (v := .slice AE s.enabled.length cE) rfl;have s1:=HBN3.out.cell 1 (v := .slice AA s.arcs.length cA) rfl;have sl:=HBN3.out.lt;have hlo:=HRB2.out.lt
      go_wp2_with fail
      have zz:=(Blk.set (Blk.set HRB3.out 0 (.slice AE s.enabled.length cE)) 1 (.slice AA s.arcs.length cA));have y0:=Blk.cell zz 0 (v := .slice AE s.enabled.length cE) (by rfl)
      have y1:=Blk.cell zz 1 (v := .slice AA s.arcs.length cA) (by rfl)
      refine bodyPost_ret (v := .tuple #[.agg #[.slice AE s.enabled.length cE,.slice AA s.arcs.length cA],.slice R legit.length rc,.int .i64 0]) (by simp [results,Tryz.results83,go_sem,y0,y1];try go_simp) rfl ?_
      unfold aWb;rw [HF.out,HBF.out];refine ⟨AE,_,cE,AA,_,cA,R,_,rc,rfl,fun _=>⟨?_,rfl,?_⟩,((HX1.trans HBI).setCell (by simp;omega) _).setCell (by simp;omega) _⟩
      .refine ((HSG2.out.agr (Agr.bel' HBI)).agr ((Agr.setCell _ _ _ ?_).trans (Agr.setCell _ _ _ ?_))).now
       all_goals (simp)
      .exact ((HVC.out.box (by simpa using hlo) _).box (by simpa using hlo) _).read (aB4 (aB4 HO.out (by simpa using hlo) _) (by simpa using hlo) _)
   .rw [decide_eq_false hn,if_pos rfl] at HF
    have d1:((legit.length:Int) != (s.enabled.length:Int))=true:=by simp;omega
    have d2:(legit.length != s.enabled.length)=true:=by simpa using hn
    clear hv hn;go_enter func83,ntmps83
    go_wp2_with (first | (go_at_call 45;have hbd:=aFt _ p _ g kind _ (HPV.out _ (aA0 HW)) (HGV.out _ (aA0 HW)) HL.out HGL.out HFW.out;rw [HBF.out] at hbd;refine hbd.mono ?_;rintro e w1 ⟨vS,rfl,hS,hb⟩;obtain ⟨AE,cE,AA,cA,rfl,_⟩:=(hS.now:aCo _ _ _);have HX1:=HX0.trans hb;have HRB:=aA1 ((Blk.keep HSB.out hb).alloc (.cells #[.slice AE s.enabled.length cE,.slice AA s.arcs.length cA] 70));have HBN:=aA1 (Blk.new w1 #[.slice AE s.enabled.length cE,.slice AA s.arcs.length cA] 70);have HSG:=aA1 (hS.agr (Agr.alloc _ w1 (.cells #[.slice AE s.enabled.length cE,.slice AA s.arcs.length cA] 70)));replace HX1:=HX1.alloc (.cells #[.slice AE s.enabled.length cE,.slice AA s.arcs.length cA] 70);clear hS hbd;replace HW:=HW.trans hb;clear hb;(try clear p0 p1 p2 g0 g1 gsz);obtain ⟨p0,p1,p2,g0,g1,gsz⟩:=aA6 HW;replace HW:=HW.alloc (.cells #[.slice AE s.enabled.length cE,.slice AA s.arcs.length cA] 70);clear p0 p1 p2 g0 g1 gsz;obtain ⟨p0,p1,p2,g0,g1,gsz⟩:=aA6 HW;have n0:=HBN.out.cell 0 (v := .slice AE s.enabled.length cE) rfl;have n1:=HBN.out.cell 1 (v := .slice AA s.arcs.length cA) rfl;have nl:=HBN.out.lt;have z0:=HRB.out.cell 0 (v := .slice none 0 0) rfl;have z1:=HRB.out.cell 1 (v := .slice none 0 0) rfl;have f0:=HRB.out.frozen 0;have f1:=HRB.out.frozen 1;have lb:=HRB.out.lt) | (go_at_call 50;refine (aBa _ p A ca l _ (HPV.out _ (aA0 HW)) (HTR.out _ (aA0 HW)) HL.out (by omega) (fun e he=>by have:=HLE.out e he;omega)).mono ?_;rintro e w2 ⟨rfl,hb⟩;rw [HV.out];have HRB2:=aA1 (Blk.keep HRB.out hb);have HBN2:=aA1 (Blk.keep HBN.out hb);have HSG2:=aA1 (HSG.out.agr (Agr.bel' hb));replace HX1:=HX1.trans hb;clear n0 n1 nl z0 z1 f0 f1 lb;replace HW:=HW.trans hb;clear hb;(try clear p0 p1 p2 g0 g1 gsz);obtain ⟨p0,p1,p2,g0,g1,gsz⟩:=aA6 HW;have n0:=HBN2.out.cell 0 (v := .slice AE s.enabled.length cE) rfl;have n1:=HBN2.out.cell 1 (v := .slice AA s.arcs.length cA) rfl;have nl:=HBN2.out.lt;have z0:=HRB2.out.cell 0 (v := .slice none 0 0) rfl;have z1:=HRB2.out.cell 1 (v := .slice none 0 0) rfl;have f0:=HRB2.out.frozen 0;have f1:=HRB2.out.frozen 1;have lb:=HRB2.out.lt))
    have zz:=(Blk.set (Blk.set HRB2.out 0 (.slice none 0 0)) 1 (.slice none 0 0));have y0:=Blk.cell zz 0 (v := .slice none 0 0) (by rfl)
    have y1:=Blk.cell zz 1 (v := .slice none 0 0) (by rfl)
    refine bodyPost_ret (v := .tuple #[.agg #[.slice none 0 0,.slice none 0 0],.slice none 0 0,.int .i64 7]) (by simp [results,Tryz.results83,go_sem,y0,y1];try go_simp) rfl ?_
    unfold aWb;rw [HF.out];exact ⟨none,0,0,none,0,0,none,0,0,rfl,(fun h0=>by cases h0),(HX1.setCell (by simp;omega) _).setCell (by simp;omega) _⟩
 .rw [if_pos h1] at HF
  have d0:(ee != 0)=true:=by simpa using h1
  have H1:=aA1 h1;clear h1;go_enter func83,ntmps83
  go_wp2_with ((go_at_call 45;have hbd:=aFt _ p _ g kind _ (HPV.out _ (aA0 HW)) (HGV.out _ (aA0 HW)) HL.out HGL.out HFW.out;rw [HBF.out] at hbd;refine hbd.mono ?_;rintro e w1 ⟨vS,rfl,hS,hb⟩;obtain ⟨AE,cE,AA,cA,rfl,_⟩:=(hS.now:aCo _ _ _);have HX1:=HX0.trans hb;have HRB:=aA1 ((Blk.keep HSB.out hb).alloc (.cells #[.slice AE s.enabled.length cE,.slice AA s.arcs.length cA] 70));have HBN:=aA1 (Blk.new w1 #[.slice AE s.enabled.length cE,.slice AA s.arcs.length cA] 70);have HSG:=aA1 (hS.agr (Agr.alloc _ w1 (.cells #[.slice AE s.enabled.length cE,.slice AA s.arcs.length cA] 70)));replace HX1:=HX1.alloc (.cells #[.slice AE s.enabled.length cE,.slice AA s.arcs.length cA] 70);clear hS hbd;replace HW:=HW.trans hb;clear hb;(try clear p0 p1 p2 g0 g1 gsz);obtain ⟨p0,p1,p2,g0,g1,gsz⟩:=aA6 HW;replace HW:=HW.alloc (.cells #[.slice AE s.enabled.length cE,.slice AA s.arcs.length cA] 70);clear p0 p1 p2 g0 g1 gsz;obtain ⟨p0,p1,p2,g0,g1,gsz⟩:=aA6 HW;have n0:=HBN.out.cell 0 (v := .slice AE s.enabled.length cE) rfl;have n1:=HBN.out.cell 1 (v := .slice AA s.arcs.length cA) rfl;have nl:=HBN.out.lt;have z0:=HRB.out.cell 0 (v := .slice none 0 0) rfl;have z1:=HRB.out.cell 1 (v := .slice none 0 0) rfl;have f0:=HRB.out.frozen 0;have f1:=HRB.out.frozen 1;have lb:=HRB.out.lt))
  have zz:=(Blk.set (Blk.set HRB.out 0 (.slice none 0 0)) 1 (.slice none 0 0));have y0:=Blk.cell zz 0 (v := .slice none 0 0) (by rfl)
  have y1:=Blk.cell zz 1 (v := .slice none 0 0) (by rfl)
  refine bodyPost_ret (v := .tuple #[.agg #[.slice none 0 0,.slice none 0 0],.slice none 0 0,.int .i64 ee]) (by simp [results,Tryz.results83,go_sem,y0,y1];try go_simp) rfl ?_
  unfold aWb;rw [HF.out];exact ⟨none,0,0,none,0,0,none,0,0,rfl,(fun h0=>absurd h0 H1.out),(HX1.setCell (by simp;omega) _).setCell (by simp;omega) _⟩
end Go.Proofs.YtmifhmdghfbalaaGreatDoor

