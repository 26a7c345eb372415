/- Merged. -/
import Derived.Test.YtmoebklkkjbigaaGreatDoorZ17
import Derived.Test.YtmoebklkkjbigaaGreatDoorZ16
set_option linter.unusedSimpArgs false
set_option linter.unnecessarySimpa false
set_option linter.unusedVariables false
set_option maxRecDepth 100000
set_option maxHeartbeats 4000000
open Go.Proofs.Tryz

namespace Go.Proofs.YtmoebklkkjbigaaGreatDoor
open Go.RowKit
theorem aO7 (B bm bc:Nat) (p:Prg) (g:Graph) (vc:Value) (c:aA2) (v:Nat) (w:World) (hM:aEq w B p g) (hC:aD7 w vc c) (hs:SOK p g c v) (hL:aCi p=true)
  (c1:w.cell? ⟨bm,0,none⟩=some (.pointer (some ⟨B,0,none⟩))) (c2:w.cell? ⟨bc,0,none⟩=some vc) (_l1:bm<w.heap.size) (_l2:bc<w.heap.size) :
  Calls prog 158 #[.int .i64 v,.pointer (some ⟨bm,0,none⟩),.pointer (some ⟨bc,0,none⟩)] w fun e w'=>e = .returned (.bool (decide (0<=aAk p.rules g c v)))/\Bel w w':=by
 have HM:=aA0 hM;clear hM;have HC:=aA0 hC;obtain ⟨AC,kc,rfl,_,_,_⟩:=hC;have HK:=aA0 hs;clear hs;have HL:=aA0 hL;clear hL;go_enter func158,ntmps158
 go_wp2_with (go_at_call 82;refine (aGh B p g _ c v _ HM.out HC.out HK.out HL.out).mono ?_;rintro e w' ⟨rfl,hb⟩)
 go_ret;exact ⟨rfl,hb⟩
theorem aTq {p:Prg} {g:Graph} {c:aA2} (hm:aC0 p g c=0):(aAa p g).length=c.length:=((aDi.1 (aBr hm).2).1).symm
theorem aJ3 (B:Nat) (p:Prg) (g:Graph) (vc:Value) (c:aA2) (w:World) (hM:aEq w B p g) (hC:aD7 w vc c) (hm:aC0 p g c=0) (hL:aCi p=true) :
  Calls prog 133 #[.pointer (some ⟨B,0,none⟩),vc] w fun e w'=>e = .returned (.int .u32 (aAe p g c:Nat))/\Bel w w':=by
 have HM:=aA0 (fun w' (k:Bel w w')=>hM.keep k);have HC:=aA0 (fun w' (k:Bel w w')=>hC.keep k);obtain ⟨AC,kc,rfl,_,_,_⟩:=hC;obtain ⟨A1,k1,A2,k2,S,AT,kt,hB,_,_,_⟩:=hM;have hle:c.length<=24:=by rw [aBk hm];exact (aAm (aBr hm).1).2.1.le
 have z4:=hB.cell 4 (v := .slice AT (aAa p g).length kt) rfl;have zl:=hB.lt;have HK:=aA0 (fun v (hv:v<c.length)=>aUu hm hv);have HT:=aA0 (aTq hm);have HL:=aA0 hL;clear hL;clear hB;have HW:=Bel.refl ((w.alloc (.cells #[.pointer (some ⟨B,0,none⟩)] 97)).alloc (.cells #[.slice AC c.length kc] 66));go_enter func133,ntmps133;rw [HT.out] at z4
 go_wp2_with (go_at_call 157;refine (bIp 158 #[.pointer (some ⟨w.heap.size,0,none⟩),.pointer (some ⟨w.heap.size+1,0,none⟩)] (fun v=>decide (0<=aAk p.rules g c v)) c.length _ (fun v w2 hv hb=>by
   have h2:=bL5 hb
   exact aO7 B _ _ p g _ c v w2 (HM.out _ (aA3 hb)) (HC.out _ (aA3 hb)) (HK.out v hv) HL.out (h2.1 0 _ rfl) (h2.2.1 0 _ rfl) (by have:=h2.2.2;omega) h2.2.2) (fun a w2=>by kernel_rfl) hle).mono ?_;rintro e w' ⟨rfl,hb⟩;replace HW:=HW.trans hb)
 go_ret;exact ⟨rfl,aA3 HW⟩
theorem bK0 {w:World} {AT:Option Addr} {kt:Nat} {p:Prg} {g:Graph} {v:Nat} (h:aHz w (.slice AT (aAa p g).length kt) (aAa p g)) (hv:v<(aAa p g).length) :
  ∃ b o R rc,AT=some ⟨b,o,none⟩/\b<w.heap.size/\w.cell? ⟨b,o+v,none⟩=some (.slice R p.vars.length rc)/\aJe w R p.vars.length (aJc p g v):=by
 obtain ⟨A,c,e,hT,_,_⟩:=h;obtain ⟨rfl,rfl⟩:AT=A/\kt=c:=by simpa using e
 obtain ⟨b,o,R,rc,h1,h2,h3,h4,_,_⟩:=hT.at_ v hv;have e1:(aAa p g)[v]=aJc p g v:=aKb hv;have e2:(aAa p g)[v].length=p.vars.length:=by rw [e1,aE6]
 rw [e2] at h3 h4;rw [e1] at h4;exact ⟨b,o,R,rc,h1,h2,h3,h4⟩
theorem bF8 {r:Rule} (h:aP6 r=true):r.sets.length<=10:=(aEw h).2.1
theorem bAl {r:Rule} (h:aP6 r=true) {s:SetT} (hs:s∈r.sets):s.value.length<=250:=(aEw h).2.2.2 s hs
theorem aMq (B:Nat) (p:Prg) (g:Graph) (vc:Value) (c:aA2) (v k:Nat) (w:World) (hM:aEq w B p g) (hC:aD7 w vc c) (hm:aC0 p g c=0) (hv:v<c.length) (hk:k<p.rules.length) (hL:aCi p=true) (hCL:aI4 c=true) :
  Calls prog 83 #[.pointer (some ⟨B,0,none⟩),vc,.int .i64 v,.int .i64 k] w (bNj (aD9 p g c v p.rules[k].sets) w):=by
 have HM:=aA0 (fun w' (k:Bel w w')=>hM.keep k);have HC:=aA0 (fun w' (k:Bel w w')=>hC.keep k);obtain ⟨AC,kc,rfl,hRC,_,_⟩:=hC;obtain ⟨A1,k1,A2,k2,S,AT,kt,hB,hP,hS,hT⟩:=hM;have HB:=aA0 (fun w' (k:Bel w w')=>hB.keep k);have HS:=aA0 (fun w' (k:Bel w w')=>hS.keep k);have HTV:=aA0 (fun w' (k:Bel w w')=>aHz.keep hT k);have HSK:=aA0 (aUu hm hv);obtain ⟨b0,o0,R,rc,rfl,hb0,hcell0,hI,_,_⟩:=hRC.at_ v hv;have HI:=aA0 hI;have hle10:=(aJt hCL).2 _ (List.getElem_mem hv);obtain ⟨A1',k1',A2',k2',eP,hV,_,_,hR,_,_⟩:=hP;obtain ⟨⟨rfl,rfl⟩,rfl,rfl⟩:(A1=A1'/\k1=k1')/\A2=A2'/\k2=k2':=by simpa using eP
 have HV:=aA0 (fun w' (k:Bel w w')=>aNj.keep hV k);obtain ⟨b1,o1,G,gc,SS,sc,rfl,hb1,_,_,cs,_,_,_,hSets,_,_⟩:=hR.at_ k hk;have HSets:=aA0 (fun w' (k:Bel w w')=>aQa.keep hSets k);have z2:=hB.cell 2 (v := .slice (some ⟨b1,o1,none⟩) p.rules.length k2) rfl;have zl:=hB.lt;have hdv:decide (v<c.length)=true:=by simpa using hv
 have hdk:decide (k<p.rules.length)=true:=by simpa using hk
 obtain ⟨j0,hj0,hy0,hy1,hy2⟩:=info_parts aXw;clear hI hRC hV hR hSets hB hS hT eP;have HW:=Bel.refl w;go_enter func83,ntmps83
 go_wp2_with (at_builtin;go_must (refine aIy _ rfl (.const (.slice none 0 0)) (.tmp 16) 22 rfl w.heap.size 3 j0 (.int .i64 0) 1 8 underlying22 hj0 hy0 hy1 hy2 rfl (by decide) none 0 0 [] rfl (World.ownsRow_nil _ _ _ _) R c[v].length rc (c[v].map (Value.int .i64)) rfl HI.out.cells (aMk _) (by unfold maxLen;omega) (by omega) (Nat.le_refl _) ?_);intro A3 c3 w3 hown3 hgr3 _;rw [List.nil_append,Nat.zero_add] at hown3;replace HW:=HW.grown hgr3 (fun k hk=>by cases hk);obtain ⟨_,hN⟩:=aN0 hown3;obtain ⟨hn1,hn2⟩:=aCv hown3;have HO:=aA0 hown3;have z2':=(HB.out _ HW).cell 2 (v := .slice (some ⟨b1,o1,none⟩) p.rules.length k2) rfl;have cs':=(HW.cell hb1).trans cs;have zl':=(HB.out _ HW).lt;clear hown3 hgr3 hN)
 clear z2 zl z2' cs cs' zl' hdk;have hcl:c[v].length=p.vars.length:=by have:=bOn hm hv;rwa [aA7 hv] at this
 have HCL:=aA0 hcl;have HST:=aA0 (fun (s:SetT) hs=>aVt (aAm (aBr hm).1).1 (List.getElem_mem hk) (s:=s) hs);have HSL:=aA0 (fun (s:SetT) hs=>bAl ((aBn hL).2.2.2.2 _ (List.getElem_mem hk)) (s:=s) hs);have hls:=bF8 ((aBn hL).2.2.2.2 _ (List.getElem_mem hk));have HMV:Hid (∀ j (hj:j<p.rules[k].sets.length),aD9 p g c v (p.rules[k].sets.take (j+1))=(aD9 p g c v (p.rules[k].sets.take j)).set p.rules[k].sets[j].var.toNat (aJ4 p g c v p.rules[k].sets[j])):=fun j hj=>bAr _ _ _ _ _ _ hj;have HML:Hid (∀ j,(aD9 p g c v (p.rules[k].sets.take j)).length=c[v].length):=fun j=>by rw [aV0,aA7 hv]
 have HO0:Hid (w3.ownsRow w.heap.size 3 1 (.slice A3 c[v].length c3) c[v].length ((aD9 p g c v (p.rules[k].sets.take 0)).map (Value.int .i64))):=by
  have:=HO.out;show World.ownsRow _ _ _ _ _ _ _
  rw [List.take_zero];unfold aD9;rw [aA7 hv];exact this
 have hpv:0<p.vars.length:=by have:=(aCm (aAm (aBr hm).1).1).2.1;omega
 obtain ⟨ga,hga⟩:∃ ga,A3=some ⟨ga,0,none⟩:=by
  obtain ⟨ga,cap,hv',_⟩:=HO.out.form (by omega)
  injection hv' with hA
  exact ⟨ga,hA⟩
 subst hga;have hTl:(aAa p g).length=c.length:=aTq hm;have HTL:=aA0 hTl;obtain ⟨bT,oT,RT,rT,rfl,hbT,cT,hPT⟩:=bK0 (HTV.out _ (Bel.refl w)) (v:=v) (by omega)
 have HPT:=aA0 hPT;clear hTl hcl HO hL hPT
 go_loopg [11,12,28] p.rules[k].sets.length (fun m _x _y z wr=>∃ j:Nat,j<=p.rules[k].sets.length/\m=p.rules[k].sets.length-j/\z = .int .i64 j/\Hid (wr.ownsRow w.heap.size 3 1 (.slice (some ⟨ga,0,none⟩) c[v].length c3) c[v].length ((aD9 p g c v (p.rules[k].sets.take j)).map (Value.int .i64)))/\Bel w wr)
 case atStart=>exact ⟨0,by omega,rfl,rfl,HO0,HW⟩
 case round =>
  clear HO0 HW;obtain ⟨j,hj,rfl,rfl,HO,HW⟩:=hrel
  by_cases hlt:j<p.rules[k].sets.length
  .have hd0:decide (j<p.rules[k].sets.length)=true:=by simpa using hlt
   obtain ⟨t1,t2,t4,t5,hx0,hx1⟩:=HST.out _ (List.getElem_mem hlt);obtain ⟨x,hx⟩:=Int.eq_ofNat_of_zero_le hx0;have hxl:x<p.vars.length:=by omega
   have hsl:=HSL.out _ (List.getElem_mem hlt);have HE:Hid (EOK p p.rules[k].sets[j].value):=⟨t1,t2,t4,t5,by omega⟩
   obtain ⟨bs,os,V,vc,rfl,hbs,s0,s1,hVT,_,_⟩:=(HSets.out _ (Bel.refl w)).at_ j hlt;replace s0:=(HW.cell hbs).trans s0;replace s1:=(HW.cell hbs).trans s1;have hbs':bs<wr.heap.size:=Nat.lt_of_lt_of_le hbs HW.size;have HVT:=aA0 hVT;rw [hx] at s0;have HX:=aA0 hx;clear hVT t1 t2 t4 t5 hx hx0 hx1;obtain ⟨bV,oV,eV,hbV,_,cV,_⟩:=(HV.out _ (Bel.refl w)).at_ x hxl;subst eV;obtain ⟨bP,oP,eP,hbP,cP1,cP2⟩:=HPT.out.at_ x (by rw [aE6];exact hxl)
   subst eP;obtain ⟨lo,hlo⟩:∃ lo,lo=((aJc p g v)[x]'(by rw [aE6];exact hxl)).1:=⟨_,rfl⟩
   obtain ⟨hi,hhi⟩:∃ hi,hi=((aJc p g v)[x]'(by rw [aE6];exact hxl)).2:=⟨_,rfl⟩
   rw [<- hlo] at cP1;rw [<- hhi] at cP2
   have hsv:aJ4 p g c v p.rules[k].sets[j]=aJ0 p.vars[x].kind (lo,hi) (aBb g c v (-1) (aBf p.rules[k].sets[j].value)):=by
    unfold aJ4 bKa;rw [HX.out,Int.toNat_natCast,aA7 hxl,hlo,hhi]
    congr 1
    rw [bBk]
   have HSV:=aA0 hsv;clear hsv hlo hhi;have hzB:=(HB.out _ (Bel.refl w)).lt;have zB1:=(HB.out _ (Bel.refl w)).cell 1 (v := .slice (some ⟨bV,oV,none⟩) p.vars.length k1) rfl;have zB3:=(HB.out _ (Bel.refl w)).cell 3 (v := .pointer (some ⟨S,0,none⟩)) rfl;have zB4:=(HB.out _ (Bel.refl w)).cell 4 (v := .slice (some ⟨bT,oT,none⟩) (aAa p g).length kt) rfl;have hga:=aAb HO.out;have hwr:=HW.size;have HAB:=(Bel.refl wr).alloc (.cells #[.int .i64 (x:Int),.slice V p.rules[k].sets[j].value.length vc] 197);have HWA:=HW.trans HAB
   have hcell:=aA0 (fun w' (kk:Fr ga (wr.alloc (.cells #[.int .i64 (x:Int),.slice V p.rules[k].sets[j].value.length vc] 197)) w')=>by
    have hbx:=Blk.new wr #[.int .i64 (x:Int),.slice V p.rules[k].sets[j].value.length vc] 197;have hsz:=kk.1;simp only [World.size_alloc] at hsz
    have hn1:wr.heap.size≠ga:=by omega
    have hold:∀ b o u,b<w.heap.size->w.cell? ⟨b,o,none⟩=some u->w'.cell? ⟨b,o,none⟩=some u:=fun b o u hb hc =>
     (kk.cell (by simp;omega) (by omega)).trans ((HWA.cell hb).trans hc)
    exact show w'.cell? ⟨wr.heap.size,0,none⟩=some (.int .i64 (x:Int))/\w'.cell? ⟨wr.heap.size,1,none⟩=some (.slice V p.rules[k].sets[j].value.length vc)/\w'.cell? ⟨B,1,none⟩=some (.slice (some ⟨bV,oV,none⟩) p.vars.length k1)/\w'.cell? ⟨B,3,none⟩=some (.pointer (some ⟨S,0,none⟩))/\w'.cell? ⟨B,4,none⟩=some (.slice (some ⟨bT,oT,none⟩) (aAa p g).length kt)/\w'.cell? ⟨bV,oV+x*6+1,none⟩=some (.int .i64 p.vars[x].kind)/\w'.cell? ⟨bT,oT+v,none⟩=some (.slice (some ⟨bP,oP,none⟩) p.vars.length rT)/\w'.cell? ⟨bP,oP+x*2,none⟩=some (.int .i64 lo)/\w'.cell? ⟨bP,oP+x*2+1,none⟩=some (.int .i64 hi)/\wr.heap.size<w'.heap.size/\B<w'.heap.size/\bV<w'.heap.size/\bT<w'.heap.size/\bP<w'.heap.size from
     ⟨(kk.cell (by simp) hn1).trans (hbx.cell 0 rfl),(kk.cell (by simp) hn1).trans (hbx.cell 1 rfl),hold _ _ _ hzB zB1,hold _ _ _ hzB zB3,hold _ _ _ hzB zB4,hold _ _ _ hbV cV,hold _ _ _ hbT cT,hold _ _ _ hbP cP1,hold _ _ _ hbP cP2,by omega,by omega,by omega,by omega,by omega⟩)
   have HG:=Fr.refl ga (wr.alloc (.cells #[.int .i64 (x:Int),.slice V p.rules[k].sets[j].value.length vc] 197));have HOA:=aA0 (HAB.owns HO.out);have hdx:decide (x<p.vars.length)=true:=by simpa using hxl
   have hxc:x<c[v].length:=by rw [HCL.out];exact hxl
   have hdc:decide (x<c[v].length)=true:=by simpa using hxc
   have hvT:v<(aAa p g).length:=by rw [HTL.out];exact hv
   have hdT:decide (v<(aAa p g).length)=true:=by simpa using hvT
   clear zB1 zB3 zB4 cV cP1 cP2 hsl HAB;go_wp2;replace HWA:=HWA.drew;replace HG:=HG.drew;replace HOA:=aA0 (HOA.out.drew)
   go_region_held3 (fun w'=>w'.cell? ⟨wr.heap.size,0,none⟩=some (.int .i64 (x:Int))/\w'.cell? ⟨wr.heap.size,1,none⟩=some (.slice V p.rules[k].sets[j].value.length vc)/\w'.cell? ⟨B,1,none⟩=some (.slice (some ⟨bV,oV,none⟩) p.vars.length k1)/\w'.cell? ⟨B,3,none⟩=some (.pointer (some ⟨S,0,none⟩))/\w'.cell? ⟨B,4,none⟩=some (.slice (some ⟨bT,oT,none⟩) (aAa p g).length kt)/\w'.cell? ⟨bV,oV+x*6+1,none⟩=some (.int .i64 p.vars[x].kind)/\w'.cell? ⟨bT,oT+v,none⟩=some (.slice (some ⟨bP,oP,none⟩) p.vars.length rT)/\w'.cell? ⟨bP,oP+x*2,none⟩=some (.int .i64 lo)/\w'.cell? ⟨bP,oP+x*2+1,none⟩=some (.int .i64 hi)/\wr.heap.size<w'.heap.size/\B<w'.heap.size/\bV<w'.heap.size/\bT<w'.heap.size/\bP<w'.heap.size) (exact hcell.out _ HG) (first
    | (go_simp;go_at_call 122;refine (aLg S p g _ c v _ _ _ _ (HS.out _ HWA) (HC.out _ HWA) (aCd.keep HVT.out HWA) HSK.out HE.out).mono ?_;rintro e w4 ⟨rfl,hbb⟩;replace HWA:=HWA.trans hbb;replace HG:=HG.trans (Fr.of_bel hbb);replace HOA:=aA0 (hbb.owns HOA.out);clear hbb))
   go_wp2_with fail
   have hmx:x<(aD9 p g c v (p.rules[k].sets.take j)).length:=by rw [HML.out];exact hxc
   have HY:Hid (((aD9 p g c v (p.rules[k].sets.take j)).map (Value.int .i64))[x]?=some (.int .i64 (aD9 p g c v (p.rules[k].sets.take j))[x])):=by
    show _=_
    rw [List.getElem?_map,List.getElem?_eq_getElem hmx];rfl
   replace HWA:=HWA.drew;replace HG:=HG.drew;replace HOA:=aA0 (HOA.out.drew)
   go_region_held3 (fun w'=>w'.cell? ⟨wr.heap.size,0,none⟩=some (.int .i64 (x:Int))/\w'.cell? ⟨wr.heap.size,1,none⟩=some (.slice V p.rules[k].sets[j].value.length vc)/\w'.cell? ⟨B,1,none⟩=some (.slice (some ⟨bV,oV,none⟩) p.vars.length k1)/\w'.cell? ⟨B,3,none⟩=some (.pointer (some ⟨S,0,none⟩))/\w'.cell? ⟨B,4,none⟩=some (.slice (some ⟨bT,oT,none⟩) (aAa p g).length kt)/\w'.cell? ⟨bV,oV+x*6+1,none⟩=some (.int .i64 p.vars[x].kind)/\w'.cell? ⟨bT,oT+v,none⟩=some (.slice (some ⟨bP,oP,none⟩) p.vars.length rT)/\w'.cell? ⟨bP,oP+x*2,none⟩=some (.int .i64 lo)/\w'.cell? ⟨bP,oP+x*2+1,none⟩=some (.int .i64 hi)/\wr.heap.size<w'.heap.size/\B<w'.heap.size/\bV<w'.heap.size/\bT<w'.heap.size/\bP<w'.heap.size) (first | exact hcell.out _ HG | exact hcell.out _ (HG.set _ _)) (first
    | (go_simp;go_at_call 123;refine (bHe p.vars[x].kind (lo,hi) _ _).mono ?_;rintro e w5 ⟨rfl,hbb⟩;replace HWA:=HWA.trans hbb;replace HG:=HG.trans (Fr.of_bel hbb);replace HOA:=aA0 (hbb.owns HOA.out);clear hbb;have y1:=(aAn HOA.out HY.out);obtain ⟨q1,e1,_,_,y1,z1⟩:=y1;obtain rfl:ga=q1:=(by simpa using e1);clear e1))
   go_wp2_with fail
   go_roundg (p.rules[k].sets.length-(j+1))
   case rel =>
    refine ⟨j+1,by omega,rfl,by go_num,?_,HWA.setCell (by simp;omega) _⟩
    have hst:=(HOA.out.stored x (.int .i64 (aJ0 p.vars[x].kind (lo,hi) (aBb g c v (-1) (aBf p.rules[k].sets[j].value))))).1;show World.ownsRow _ _ _ _ _ _ _
    rw [HMV.out j hlt,HX.out,Int.toNat_natCast,HSV.out,List.map_set];exact hst
   case measure=>omega
  .have hd0:decide (j<p.rules[k].sets.length)=false:=by simpa using hlt
   obtain rfl:j=p.rules[k].sets.length:=by omega
   go_wp2_with fail
   go_ret;have hO:=HO.out;rw [List.take_of_length_le (Nat.le_refl _)] at hO;obtain ⟨hn,hN⟩:=aN0 hO;exact ⟨_,c3,by rw [<- hn];rfl,hN,HW⟩
end Go.Proofs.YtmoebklkkjbigaaGreatDoor

