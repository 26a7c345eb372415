/- Merged. -/
import Derived.Test.YtmifhmdghfbalaaGreatDoorZ21
import Derived.Test.YtmifhmdghfbalaaGreatDoorZ20
set_option linter.unusedSimpArgs false
set_option linter.unnecessarySimpa false
set_option linter.unusedVariables false
set_option maxRecDepth 100000
set_option maxHeartbeats 4000000
open Go.Proofs.Tryz

namespace Go.Proofs.YtmifhmdghfbalaaGreatDoor
open Go.RowKit
theorem bEg {p:Prg} {g:Graph} {c:aA8} (hm:aCp p g c=0):(aAa p g).length=c.length:=((aCy.1 (aBn hm).2).1).symm
theorem bHd {w:World} {AT:Option Addr} {kt:Nat} {p:Prg} {g:Graph} {v:Nat} (h:aI2 w (.slice AT (aAa p g).length kt) (aAa p g)) (hv:v<(aAa p g).length) :
  ∃ b o R rc,AT=some ⟨b,o,none⟩/\b<w.heap.size/\w.cell? ⟨b,o+v,none⟩=some (.slice R p.vars.length rc)/\aKg w R p.vars.length (aEp p g v):=by
 obtain ⟨A,c,e,hT,_,_⟩:=h;obtain ⟨rfl,rfl⟩:AT=A/\kt=c:=by simpa using e
 obtain ⟨b,o,R,rc,h1,h2,h3,h4,_,_⟩:=hT.at_ v hv;have e1:(aAa p g)[v]=aEp p g v:=aDe hv;have e2:(aAa p g)[v].length=p.vars.length:=by rw [e1,aBu]
 rw [e2] at h3 h4;rw [e1] at h4;exact ⟨b,o,R,rc,h1,h2,h3,h4⟩
theorem aTs {r:Rule} (h:aH1 r=true):r.sets.length<=10:=(aCh h).2.1
theorem aRf {r:Rule} (h:aH1 r=true) {s:SetT} (hs:s∈r.sets):s.value.length<=250:=(aCh h).2.2.2 s hs
theorem aVh (B:Nat) (p:Prg) (g:Graph) (vc:Value) (c:aA8) (v k:Nat) (w:World) (hM:aLw w B p g) (hC:aDf w vc c) (hm:aCp p g c=0) (hv:v<c.length) (hk:k<p.rules.length) (hL:aAt p=true) (hCL:aE1 c=true) :
  Calls prog 229 #[.pointer (some ⟨B,0,none⟩),vc,.int .i64 v,.int .i64 k] w (bEq (aD0 p g c v p.rules[k].sets) w):=by
 have HM:=aA1 (fun w' (k:Bel w w')=>hM.keep k);have HC:=aA1 (fun w' (k:Bel w w')=>hC.keep k);obtain ⟨AC,kc,rfl,hRC,_,_⟩:=hC;obtain ⟨A1,k1,A2,k2,S,AT,kt,hB,hP,hS,hT⟩:=hM;have HB:=aA1 (fun w' (k:Bel w w')=>hB.keep k);have HS:=aA1 (fun w' (k:Bel w w')=>hS.keep k);have HTV:=aA1 (fun w' (k:Bel w w')=>aI2.keep hT k);have HSK:=aA1 (aKr hm hv);obtain ⟨b0,o0,R,rc,rfl,hb0,hcell0,hI,_,_⟩:=hRC.at_ v hv;have HI:=aA1 hI;have hle10:=(aFg hCL).2 _ (List.getElem_mem hv);obtain ⟨A1',k1',A2',k2',eP,hV,_,_,hR,_,_⟩:=hP;obtain ⟨⟨rfl,rfl⟩,rfl,rfl⟩:(A1=A1'/\k1=k1')/\A2=A2'/\k2=k2':=by simpa using eP
 have HV:=aA1 (fun w' (k:Bel w w')=>aKh.keep hV k);obtain ⟨b1,o1,G,gc,SS,sc,rfl,hb1,_,_,cs,_,_,_,hSets,_,_⟩:=hR.at_ k hk;have HSets:=aA1 (fun w' (k:Bel w w')=>aO5.keep hSets k);have z2:=hB.cell 2 (v := .slice (some ⟨b1,o1,none⟩) p.rules.length k2) rfl;have zl:=hB.lt;have hdv:decide (v<c.length)=true:=by simpa using hv
 have hdk:decide (k<p.rules.length)=true:=by simpa using hk
 obtain ⟨j0,hj0,hy0,hy1,hy2⟩:=info_parts aR4;clear hI hRC hV hR hSets hB hS hT eP;have HW:=Bel.refl w;go_enter func229,ntmps229
 go_wp2_with (at_builtin;go_must (refine aDr _ rfl (.const (.slice none 0 0)) (.tmp 16) 26 rfl w.heap.size 3 j0 (.int .i64 0) 1 8 underlying26 hj0 hy0 hy1 hy2 rfl (by decide) none 0 0 [] rfl (World.ownsRow_nil _ _ _ _) R c[v].length rc (c[v].map (Value.int .i64)) rfl HI.out.cells (aJj _) (by unfold maxLen;omega) (by omega) (Nat.le_refl _) ?_);intro A3 c3 w3 hown3 hgr3 _;rw [List.nil_append,Nat.zero_add] at hown3;replace HW:=HW.grown hgr3 (fun k hk=>by cases hk);obtain ⟨_,hN⟩:=aNo hown3;obtain ⟨hn1,hn2⟩:=aDp hown3;have HO:=aA1 hown3;have z2':=(HB.out _ HW).cell 2 (v := .slice (some ⟨b1,o1,none⟩) p.rules.length k2) rfl;have cs':=(HW.cell hb1).trans cs;have zl':=(HB.out _ HW).lt;clear hown3 hgr3 hN)
 clear z2 zl z2' cs cs' zl' hdk;have hcl:c[v].length=p.vars.length:=by have:=bGy hm hv;rwa [aA7 hv] at this
 have HCL:=aA1 hcl;have HST:=aA1 (fun (s:SetT) hs=>aVy (aAe (aBn hm).1).1 (List.getElem_mem hk) (s:=s) hs);have HSL:=aA1 (fun (s:SetT) hs=>aRf ((aAi hL).2.2.2.2 _ (List.getElem_mem hk)) (s:=s) hs);have hls:=aTs ((aAi hL).2.2.2.2 _ (List.getElem_mem hk));have HMV:Hid (∀ j (hj:j<p.rules[k].sets.length),aD0 p g c v (p.rules[k].sets.take (j+1))=(aD0 p g c v (p.rules[k].sets.take j)).set p.rules[k].sets[j].var.toNat (aL5 p g c v p.rules[k].sets[j])):=fun j hj=>aRj _ _ _ _ _ _ hj;have HML:Hid (∀ j,(aD0 p g c v (p.rules[k].sets.take j)).length=c[v].length):=fun j=>by rw [aNi,aA7 hv]
 have HO0:Hid (w3.ownsRow w.heap.size 3 1 (.slice A3 c[v].length c3) c[v].length ((aD0 p g c v (p.rules[k].sets.take 0)).map (Value.int .i64))):=by
  have:=HO.out;show World.ownsRow _ _ _ _ _ _ _
  rw [List.take_zero];unfold aD0;rw [aA7 hv];exact this
 have hpv:0<p.vars.length:=by have:=(aB6 (aAe (aBn hm).1).1).2.1;omega
 obtain ⟨ga,hga⟩:∃ ga,A3=some ⟨ga,0,none⟩:=by
  obtain ⟨ga,cap,hv',_⟩:=HO.out.form (by omega)
  injection hv' with hA
  exact ⟨ga,hA⟩
 subst hga;have hTl:(aAa p g).length=c.length:=bEg hm;have HTL:=aA1 hTl;obtain ⟨bT,oT,RT,rT,rfl,hbT,cT,hPT⟩:=bHd (HTV.out _ (Bel.refl w)) (v:=v) (by omega)
 have HPT:=aA1 hPT;clear hTl hcl HO hL hPT
 go_loopg [11,12,28] p.rules[k].sets.length (fun m _x _y z wr=>∃ j:Nat,j<=p.rules[k].sets.length/\m=p.rules[k].sets.length-j/\z = .int .i64 j/\Hid (wr.ownsRow w.heap.size 3 1 (.slice (some ⟨ga,0,none⟩) c[v].length c3) c[v].length ((aD0 p g c v (p.rules[k].sets.take j)).map (Value.int .i64)))/\Bel w wr)
 case atStart=>exact ⟨0,by omega,rfl,rfl,HO0,HW⟩
 case round =>
  clear HO0 HW;obtain ⟨j,hj,rfl,rfl,HO,HW⟩:=hrel
  by_cases hlt:j<p.rules[k].sets.length
  .have hd0:decide (j<p.rules[k].sets.length)=true:=by simpa using hlt
   obtain ⟨t1,t2,t4,t5,hx0,hx1⟩:=HST.out _ (List.getElem_mem hlt);obtain ⟨x,hx⟩:=Int.eq_ofNat_of_zero_le hx0;have hxl:x<p.vars.length:=by omega
   have hsl:=HSL.out _ (List.getElem_mem hlt);have HE:Hid (EOK p p.rules[k].sets[j].value):=⟨t1,t2,t4,t5,by omega⟩
   obtain ⟨bs,os,V,vc,rfl,hbs,s0,s1,hVT,_,_⟩:=(HSets.out _ (Bel.refl w)).at_ j hlt;replace s0:=(HW.cell hbs).trans s0;replace s1:=(HW.cell hbs).trans s1;have hbs':bs<wr.heap.size:=Nat.lt_of_lt_of_le hbs HW.size;have HVT:=aA1 hVT;rw [hx] at s0;have HX:=aA1 hx;clear hVT t1 t2 t4 t5 hx hx0 hx1;obtain ⟨bV,oV,eV,hbV,_,cV,_⟩:=(HV.out _ (Bel.refl w)).at_ x hxl;subst eV;obtain ⟨bP,oP,eP,hbP,cP1,cP2⟩:=HPT.out.at_ x (by rw [aBu];exact hxl)
   subst eP;obtain ⟨lo,hlo⟩:∃ lo,lo=((aEp p g v)[x]'(by rw [aBu];exact hxl)).1:=⟨_,rfl⟩
   obtain ⟨hi,hhi⟩:∃ hi,hi=((aEp p g v)[x]'(by rw [aBu];exact hxl)).2:=⟨_,rfl⟩
   rw [<- hlo] at cP1;rw [<- hhi] at cP2
   have hsv:aL5 p g c v p.rules[k].sets[j]=aHj p.vars[x].kind (lo,hi) (aAw g c v (-1) (aAm p.rules[k].sets[j].value)):=by
    unfold aL5 bEj;rw [HX.out,Int.toNat_natCast,aA7 hxl,hlo,hhi]
    congr 1
    rw [aVv]
   have HSV:=aA1 hsv;clear hsv hlo hhi;have hzB:=(HB.out _ (Bel.refl w)).lt;have zB1:=(HB.out _ (Bel.refl w)).cell 1 (v := .slice (some ⟨bV,oV,none⟩) p.vars.length k1) rfl;have zB3:=(HB.out _ (Bel.refl w)).cell 3 (v := .pointer (some ⟨S,0,none⟩)) rfl;have zB4:=(HB.out _ (Bel.refl w)).cell 4 (v := .slice (some ⟨bT,oT,none⟩) (aAa p g).length kt) rfl;have hga:=aAf HO.out;have hwr:=HW.size;have HAB:=(Bel.refl wr).alloc (.cells #[.int .i64 (x:Int),.slice V p.rules[k].sets[j].value.length vc] 156);have HWA:=HW.trans HAB
   have hcell:=aA1 (fun w' (kk:Fr ga (wr.alloc (.cells #[.int .i64 (x:Int),.slice V p.rules[k].sets[j].value.length vc] 156)) w')=>by
    have hbx:=Blk.new wr #[.int .i64 (x:Int),.slice V p.rules[k].sets[j].value.length vc] 156;have hsz:=kk.1;simp only [World.size_alloc] at hsz
    have hn1:wr.heap.size≠ga:=by omega
    have hold:∀ b o u,b<w.heap.size->w.cell? ⟨b,o,none⟩=some u->w'.cell? ⟨b,o,none⟩=some u:=fun b o u hb hc =>
     (kk.cell (by simp;omega) (by omega)).trans ((HWA.cell hb).trans hc)
    exact show w'.cell? ⟨wr.heap.size,0,none⟩=some (.int .i64 (x:Int))/\w'.cell? ⟨wr.heap.size,1,none⟩=some (.slice V p.rules[k].sets[j].value.length vc)/\w'.cell? ⟨B,1,none⟩=some (.slice (some ⟨bV,oV,none⟩) p.vars.length k1)/\w'.cell? ⟨B,3,none⟩=some (.pointer (some ⟨S,0,none⟩))/\w'.cell? ⟨B,4,none⟩=some (.slice (some ⟨bT,oT,none⟩) (aAa p g).length kt)/\w'.cell? ⟨bV,oV+x*6+1,none⟩=some (.int .i64 p.vars[x].kind)/\w'.cell? ⟨bT,oT+v,none⟩=some (.slice (some ⟨bP,oP,none⟩) p.vars.length rT)/\w'.cell? ⟨bP,oP+x*2,none⟩=some (.int .i64 lo)/\w'.cell? ⟨bP,oP+x*2+1,none⟩=some (.int .i64 hi)/\wr.heap.size<w'.heap.size/\B<w'.heap.size/\bV<w'.heap.size/\bT<w'.heap.size/\bP<w'.heap.size from
     ⟨(kk.cell (by simp) hn1).trans (hbx.cell 0 rfl),(kk.cell (by simp) hn1).trans (hbx.cell 1 rfl),hold _ _ _ hzB zB1,hold _ _ _ hzB zB3,hold _ _ _ hzB zB4,hold _ _ _ hbV cV,hold _ _ _ hbT cT,hold _ _ _ hbP cP1,hold _ _ _ hbP cP2,by omega,by omega,by omega,by omega,by omega⟩)
   have HG:=Fr.refl ga (wr.alloc (.cells #[.int .i64 (x:Int),.slice V p.rules[k].sets[j].value.length vc] 156));have HOA:=aA1 (HAB.owns HO.out);have hdx:decide (x<p.vars.length)=true:=by simpa using hxl
   have hxc:x<c[v].length:=by rw [HCL.out];exact hxl
   have hdc:decide (x<c[v].length)=true:=by simpa using hxc
   have hvT:v<(aAa p g).length:=by rw [HTL.out];exact hv
   have hdT:decide (v<(aAa p g).length)=true:=by simpa using hvT
   clear zB1 zB3 zB4 cV cP1 cP2 hsl HAB;go_wp2;replace HWA:=HWA.drew;replace HG:=HG.drew;replace HOA:=aA1 (HOA.out.drew)
   go_region_held3 (fun w'=>w'.cell? ⟨wr.heap.size,0,none⟩=some (.int .i64 (x:Int))/\w'.cell? ⟨wr.heap.size,1,none⟩=some (.slice V p.rules[k].sets[j].value.length vc)/\w'.cell? ⟨B,1,none⟩=some (.slice (some ⟨bV,oV,none⟩) p.vars.length k1)/\w'.cell? ⟨B,3,none⟩=some (.pointer (some ⟨S,0,none⟩))/\w'.cell? ⟨B,4,none⟩=some (.slice (some ⟨bT,oT,none⟩) (aAa p g).length kt)/\w'.cell? ⟨bV,oV+x*6+1,none⟩=some (.int .i64 p.vars[x].kind)/\w'.cell? ⟨bT,oT+v,none⟩=some (.slice (some ⟨bP,oP,none⟩) p.vars.length rT)/\w'.cell? ⟨bP,oP+x*2,none⟩=some (.int .i64 lo)/\w'.cell? ⟨bP,oP+x*2+1,none⟩=some (.int .i64 hi)/\wr.heap.size<w'.heap.size/\B<w'.heap.size/\bV<w'.heap.size/\bT<w'.heap.size/\bP<w'.heap.size) (exact hcell.out _ HG) (first
    | (go_simp;go_at_call 152;refine (aIr S p g _ c v _ _ _ _ (HS.out _ HWA) (HC.out _ HWA) (aAr.keep HVT.out HWA) HSK.out HE.out).mono ?_;rintro e w4 ⟨rfl,hbb⟩;replace HWA:=HWA.trans hbb;replace HG:=HG.trans (Fr.of_bel hbb);replace HOA:=aA1 (hbb.owns HOA.out);clear hbb))
   go_wp2_with fail
   have hmx:x<(aD0 p g c v (p.rules[k].sets.take j)).length:=by rw [HML.out];exact hxc
   have HY:Hid (((aD0 p g c v (p.rules[k].sets.take j)).map (Value.int .i64))[x]?=some (.int .i64 (aD0 p g c v (p.rules[k].sets.take j))[x])):=by
    show _=_
    rw [List.getElem?_map,List.getElem?_eq_getElem hmx];rfl
   replace HWA:=HWA.drew;replace HG:=HG.drew;replace HOA:=aA1 (HOA.out.drew)
   go_region_held3 (fun w'=>w'.cell? ⟨wr.heap.size,0,none⟩=some (.int .i64 (x:Int))/\w'.cell? ⟨wr.heap.size,1,none⟩=some (.slice V p.rules[k].sets[j].value.length vc)/\w'.cell? ⟨B,1,none⟩=some (.slice (some ⟨bV,oV,none⟩) p.vars.length k1)/\w'.cell? ⟨B,3,none⟩=some (.pointer (some ⟨S,0,none⟩))/\w'.cell? ⟨B,4,none⟩=some (.slice (some ⟨bT,oT,none⟩) (aAa p g).length kt)/\w'.cell? ⟨bV,oV+x*6+1,none⟩=some (.int .i64 p.vars[x].kind)/\w'.cell? ⟨bT,oT+v,none⟩=some (.slice (some ⟨bP,oP,none⟩) p.vars.length rT)/\w'.cell? ⟨bP,oP+x*2,none⟩=some (.int .i64 lo)/\w'.cell? ⟨bP,oP+x*2+1,none⟩=some (.int .i64 hi)/\wr.heap.size<w'.heap.size/\B<w'.heap.size/\bV<w'.heap.size/\bT<w'.heap.size/\bP<w'.heap.size) (first | exact hcell.out _ HG | exact hcell.out _ (HG.set _ _)) (first
    | (go_simp;go_at_call 258;refine (bFb p.vars[x].kind (lo,hi) _ _).mono ?_;rintro e w5 ⟨rfl,hbb⟩;replace HWA:=HWA.trans hbb;replace HG:=HG.trans (Fr.of_bel hbb);replace HOA:=aA1 (hbb.owns HOA.out);clear hbb;have y1:=(aBv HOA.out HY.out);obtain ⟨q1,e1,_,_,y1,z1⟩:=y1;obtain rfl:ga=q1:=(by simpa using e1);clear e1))
   go_wp2_with fail
   go_roundg (p.rules[k].sets.length-(j+1))
   case rel =>
    refine ⟨j+1,by omega,rfl,by go_num,?_,HWA.setCell (by simp;omega) _⟩
    have hst:=(HOA.out.stored x (.int .i64 (aHj p.vars[x].kind (lo,hi) (aAw g c v (-1) (aAm p.rules[k].sets[j].value))))).1;show World.ownsRow _ _ _ _ _ _ _
    rw [HMV.out j hlt,HX.out,Int.toNat_natCast,HSV.out,List.map_set];exact hst
   case measure=>omega
  .have hd0:decide (j<p.rules[k].sets.length)=false:=by simpa using hlt
   obtain rfl:j=p.rules[k].sets.length:=by omega
   go_wp2_with fail
   go_ret;have hO:=HO.out;rw [List.take_of_length_le (Nat.le_refl _)] at hO;obtain ⟨hn,hN⟩:=aNo hO;exact ⟨_,c3,by rw [<- hn];rfl,hN,HW⟩
end Go.Proofs.YtmifhmdghfbalaaGreatDoor

