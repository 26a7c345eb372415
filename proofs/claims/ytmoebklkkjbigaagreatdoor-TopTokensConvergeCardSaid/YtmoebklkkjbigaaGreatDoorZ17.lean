/- Merged. -/
import Derived.Test.YtmoebklkkjbigaaGreatDoorZ16
import Derived.Test.YtmoebklkkjbigaaGreatDoorZ15
set_option linter.unusedSimpArgs false
set_option linter.unnecessarySimpa false
set_option linter.unusedVariables false
set_option maxRecDepth 100000
set_option maxHeartbeats 4000000
open Go.Proofs.Tryz

namespace Go.Proofs.YtmoebklkkjbigaaGreatDoor
open Go.RowKit
theorem aO3 (B bm bc:Nat) (p:Prg) (g:Graph) (vc:Value) (c:aA3) (v:Nat) (w:World) (hM:aEo w B p g) (hC:aD2 w vc c) (hs:SOK p g c v) (hL:aCc p=true)
  (c1:w.cell? ⟨bm,0,none⟩=some (.pointer (some ⟨B,0,none⟩))) (c2:w.cell? ⟨bc,0,none⟩=some vc) (_l1:bm<w.heap.size) (_l2:bc<w.heap.size) :
  Calls prog 158 #[.int .i64 v,.pointer (some ⟨bm,0,none⟩),.pointer (some ⟨bc,0,none⟩)] w fun e w'=>e = .returned (.bool (decide (0<=aAm p.rules g c v)))/\Bel w w':=by
 have HM:=aA0 hM;clear hM;have HC:=aA0 hC;obtain ⟨AC,kc,rfl,_,_,_⟩:=hC;have HK:=aA0 hs;clear hs;have HL:=aA0 hL;clear hL;go_enter func158,ntmps158
 go_wp2_with (go_at_call 82;refine (aGb B p g _ c v _ HM.out HC.out HK.out HL.out).mono ?_;rintro e w' ⟨rfl,hb⟩)
 go_ret;exact ⟨rfl,hb⟩
theorem aTj {p:Prg} {g:Graph} {c:aA3} (hm:aC4 p g c=0):(aAb p g).length=c.length:=((aDe.1 (aBy hm).2).1).symm
theorem aIs (B:Nat) (p:Prg) (g:Graph) (vc:Value) (c:aA3) (w:World) (hM:aEo w B p g) (hC:aD2 w vc c) (hm:aC4 p g c=0) (hL:aCc p=true) :
  Calls prog 133 #[.pointer (some ⟨B,0,none⟩),vc] w fun e w'=>e = .returned (.int .u32 (aAe p g c:Nat))/\Bel w w':=by
 have HM:=aA0 (fun w' (k:Bel w w')=>hM.keep k);have HC:=aA0 (fun w' (k:Bel w w')=>hC.keep k);obtain ⟨AC,kc,rfl,_,_,_⟩:=hC;obtain ⟨A1,k1,A2,k2,S,AT,kt,hB,_,_,_⟩:=hM;have hle:c.length<=24:=by rw [aBx hm];exact (aAt (aBy hm).1).2.1.le
 have z4:=hB.cell 4 (v := .slice AT (aAb p g).length kt) rfl;have zl:=hB.lt;have HK:=aA0 (fun v (hv:v<c.length)=>aUr hm hv);have HT:=aA0 (aTj hm);have HL:=aA0 hL;clear hL;clear hB;have HW:=Bel.refl ((w.alloc (.cells #[.pointer (some ⟨B,0,none⟩)] 97)).alloc (.cells #[.slice AC c.length kc] 66));go_enter func133,ntmps133;rw [HT.out] at z4
 go_wp2_with (go_at_call 157;refine (bIl 158 #[.pointer (some ⟨w.heap.size,0,none⟩),.pointer (some ⟨w.heap.size+1,0,none⟩)] (fun v=>decide (0<=aAm p.rules g c v)) c.length _ (fun v w2 hv hb=>by
   have h2:=bL2 hb
   exact aO3 B _ _ p g _ c v w2 (HM.out _ (aA2 hb)) (HC.out _ (aA2 hb)) (HK.out v hv) HL.out (h2.1 0 _ rfl) (h2.2.1 0 _ rfl) (by have:=h2.2.2;omega) h2.2.2) (fun a w2=>by kernel_rfl) hle).mono ?_;rintro e w' ⟨rfl,hb⟩;replace HW:=HW.trans hb)
 go_ret;exact ⟨rfl,aA2 HW⟩
theorem bJw {w:World} {AT:Option Addr} {kt:Nat} {p:Prg} {g:Graph} {v:Nat} (h:aHl w (.slice AT (aAb p g).length kt) (aAb p g)) (hv:v<(aAb p g).length) :
  ∃ b o R rc,AT=some ⟨b,o,none⟩/\b<w.heap.size/\w.cell? ⟨b,o+v,none⟩=some (.slice R p.vars.length rc)/\aJ5 w R p.vars.length (aJ3 p g v):=by
 obtain ⟨A,c,e,hT,_,_⟩:=h;obtain ⟨rfl,rfl⟩:AT=A/\kt=c:=by simpa using e
 obtain ⟨b,o,R,rc,h1,h2,h3,h4,_,_⟩:=hT.at_ v hv;have e1:(aAb p g)[v]=aJ3 p g v:=aJy hv;have e2:(aAb p g)[v].length=p.vars.length:=by rw [e1,aE1]
 rw [e2] at h3 h4;rw [e1] at h4;exact ⟨b,o,R,rc,h1,h2,h3,h4⟩
theorem bF7 {r:Rule} (h:aOz r=true):r.sets.length<=10:=(aEt h).2.1
theorem bAn {r:Rule} (h:aOz r=true) {s:SetT} (hs:s∈r.sets):s.value.length<=250:=(aEt h).2.2.2 s hs
theorem aMq (B:Nat) (p:Prg) (g:Graph) (vc:Value) (c:aA3) (v k:Nat) (w:World) (hM:aEo w B p g) (hC:aD2 w vc c) (hm:aC4 p g c=0) (hv:v<c.length) (hk:k<p.rules.length) (hL:aCc p=true) (hCL:aHq c=true) :
  Calls prog 83 #[.pointer (some ⟨B,0,none⟩),vc,.int .i64 v,.int .i64 k] w (bNc (aDx p g c v p.rules[k].sets) w):=by
 have HM:=aA0 (fun w' (k:Bel w w')=>hM.keep k);have HC:=aA0 (fun w' (k:Bel w w')=>hC.keep k);obtain ⟨AC,kc,rfl,hRC,_,_⟩:=hC;obtain ⟨A1,k1,A2,k2,S,AT,kt,hB,hP,hS,hT⟩:=hM;have HB:=aA0 (fun w' (k:Bel w w')=>hB.keep k);have HS:=aA0 (fun w' (k:Bel w w')=>hS.keep k);have HTV:=aA0 (fun w' (k:Bel w w')=>aHl.keep hT k);have HSK:=aA0 (aUr hm hv);obtain ⟨b0,o0,R,rc,rfl,hb0,hcell0,hI,_,_⟩:=hRC.at_ v hv;have HI:=aA0 hI;have hle10:=(aJi hCL).2 _ (List.getElem_mem hv);obtain ⟨A1',k1',A2',k2',eP,hV,_,_,hR,_,_⟩:=hP;obtain ⟨⟨rfl,rfl⟩,rfl,rfl⟩:(A1=A1'/\k1=k1')/\A2=A2'/\k2=k2':=by simpa using eP
 have HV:=aA0 (fun w' (k:Bel w w')=>aNh.keep hV k);obtain ⟨b1,o1,G,gc,SS,sc,rfl,hb1,_,_,cs,_,_,_,hSets,_,_⟩:=hR.at_ k hk;have HSets:=aA0 (fun w' (k:Bel w w')=>aQ6.keep hSets k);have z2:=hB.cell 2 (v := .slice (some ⟨b1,o1,none⟩) p.rules.length k2) rfl;have zl:=hB.lt;have hdv:decide (v<c.length)=true:=by simpa using hv
 have hdk:decide (k<p.rules.length)=true:=by simpa using hk
 obtain ⟨j0,hj0,hy0,hy1,hy2⟩:=info_parts aXt;clear hI hRC hV hR hSets hB hS hT eP;have HW:=Bel.refl w;go_enter func83,ntmps83
 go_wp2_with (at_builtin;go_must (refine aIm _ rfl (.const (.slice none 0 0)) (.tmp 16) 22 rfl w.heap.size 3 j0 (.int .i64 0) 1 8 underlying22 hj0 hy0 hy1 hy2 rfl (by decide) none 0 0 [] rfl (World.ownsRow_nil _ _ _ _) R c[v].length rc (c[v].map (Value.int .i64)) rfl HI.out.cells (aMj _) (by unfold maxLen;omega) (by omega) (Nat.le_refl _) ?_);intro A3 c3 w3 hown3 hgr3 _;rw [List.nil_append,Nat.zero_add] at hown3;replace HW:=HW.grown hgr3 (fun k hk=>by cases hk);obtain ⟨_,hN⟩:=aKj hown3;obtain ⟨hn1,hn2⟩:=aCd hown3;have HO:=aA0 hown3;have z2':=(HB.out _ HW).cell 2 (v := .slice (some ⟨b1,o1,none⟩) p.rules.length k2) rfl;have cs':=(HW.cell hb1).trans cs;have zl':=(HB.out _ HW).lt;clear hown3 hgr3 hN)
 clear z2 zl z2' cs cs' zl' hdk;have hcl:c[v].length=p.vars.length:=by have:=bOi hm hv;rwa [aA8 hv] at this
 have HCL:=aA0 hcl;have HST:=aA0 (fun (s:SetT) hs=>bDf (aAt (aBy hm).1).1 (List.getElem_mem hk) (s:=s) hs);have HSL:=aA0 (fun (s:SetT) hs=>bAn ((aBl hL).2.2.2.2 _ (List.getElem_mem hk)) (s:=s) hs);have hls:=bF7 ((aBl hL).2.2.2.2 _ (List.getElem_mem hk));have HMV:Hid (∀ j (hj:j<p.rules[k].sets.length),aDx p g c v (p.rules[k].sets.take (j+1))=(aDx p g c v (p.rules[k].sets.take j)).set p.rules[k].sets[j].var.toNat (aJv p g c v p.rules[k].sets[j])):=fun j hj=>bAs _ _ _ _ _ _ hj;have HML:Hid (∀ j,(aDx p g c v (p.rules[k].sets.take j)).length=c[v].length):=fun j=>by rw [aUy,aA8 hv]
 have HO0:Hid (w3.ownsRow w.heap.size 3 1 (.slice A3 c[v].length c3) c[v].length ((aDx p g c v (p.rules[k].sets.take 0)).map (Value.int .i64))):=by
  have:=HO.out;show World.ownsRow _ _ _ _ _ _ _
  rw [List.take_zero];unfold aDx;rw [aA8 hv];exact this
 have hpv:0<p.vars.length:=by have:=(aCj (aAt (aBy hm).1).1).2.1;omega
 obtain ⟨ga,hga⟩:∃ ga,A3=some ⟨ga,0,none⟩:=by
  obtain ⟨ga,cap,hv',_⟩:=HO.out.form (by omega)
  injection hv' with hA
  exact ⟨ga,hA⟩
 subst hga;have hTl:(aAb p g).length=c.length:=aTj hm;have HTL:=aA0 hTl;obtain ⟨bT,oT,RT,rT,rfl,hbT,cT,hPT⟩:=bJw (HTV.out _ (Bel.refl w)) (v:=v) (by omega)
 have HPT:=aA0 hPT;clear hTl hcl HO hL hPT
 go_loopg [11,12,28] p.rules[k].sets.length (fun m _x _y z wr=>∃ j:Nat,j<=p.rules[k].sets.length/\m=p.rules[k].sets.length-j/\z = .int .i64 j/\Hid (wr.ownsRow w.heap.size 3 1 (.slice (some ⟨ga,0,none⟩) c[v].length c3) c[v].length ((aDx p g c v (p.rules[k].sets.take j)).map (Value.int .i64)))/\Bel w wr)
 case atStart=>exact ⟨0,by omega,rfl,rfl,HO0,HW⟩
 case round =>
  clear HO0 HW;obtain ⟨j,hj,rfl,rfl,HO,HW⟩:=hrel
  by_cases hlt:j<p.rules[k].sets.length
  .have hd0:decide (j<p.rules[k].sets.length)=true:=by simpa using hlt
   obtain ⟨t1,t2,t4,t5,hx0,hx1⟩:=HST.out _ (List.getElem_mem hlt);obtain ⟨x,hx⟩:=Int.eq_ofNat_of_zero_le hx0;have hxl:x<p.vars.length:=by omega
   have hsl:=HSL.out _ (List.getElem_mem hlt);have HE:Hid (EOK p p.rules[k].sets[j].value):=⟨t1,t2,t4,t5,by omega⟩
   obtain ⟨bs,os,V,vc,rfl,hbs,s0,s1,hVT,_,_⟩:=(HSets.out _ (Bel.refl w)).at_ j hlt;replace s0:=(HW.cell hbs).trans s0;replace s1:=(HW.cell hbs).trans s1;have hbs':bs<wr.heap.size:=Nat.lt_of_lt_of_le hbs HW.size;have HVT:=aA0 hVT;rw [hx] at s0;have HX:=aA0 hx;clear hVT t1 t2 t4 t5 hx hx0 hx1;obtain ⟨bV,oV,eV,hbV,_,cV,_⟩:=(HV.out _ (Bel.refl w)).at_ x hxl;subst eV;obtain ⟨bP,oP,eP,hbP,cP1,cP2⟩:=HPT.out.at_ x (by rw [aE1];exact hxl)
   subst eP;obtain ⟨lo,hlo⟩:∃ lo,lo=((aJ3 p g v)[x]'(by rw [aE1];exact hxl)).1:=⟨_,rfl⟩
   obtain ⟨hi,hhi⟩:∃ hi,hi=((aJ3 p g v)[x]'(by rw [aE1];exact hxl)).2:=⟨_,rfl⟩
   rw [<- hlo] at cP1;rw [<- hhi] at cP2
   have hsv:aJv p g c v p.rules[k].sets[j]=aIq p.vars[x].kind (lo,hi) (aBd g c v (-1) (aB9 p.rules[k].sets[j].value)):=by
    unfold aJv bGh;rw [HX.out,Int.toNat_natCast,aA8 hxl,hlo,hhi]
    congr 1
    rw [bBh]
   have HSV:=aA0 hsv;clear hsv hlo hhi;have hzB:=(HB.out _ (Bel.refl w)).lt;have zB1:=(HB.out _ (Bel.refl w)).cell 1 (v := .slice (some ⟨bV,oV,none⟩) p.vars.length k1) rfl;have zB3:=(HB.out _ (Bel.refl w)).cell 3 (v := .pointer (some ⟨S,0,none⟩)) rfl;have zB4:=(HB.out _ (Bel.refl w)).cell 4 (v := .slice (some ⟨bT,oT,none⟩) (aAb p g).length kt) rfl;have hga:=aAa HO.out;have hwr:=HW.size;have HAB:=(Bel.refl wr).alloc (.cells #[.int .i64 (x:Int),.slice V p.rules[k].sets[j].value.length vc] 197);have HWA:=HW.trans HAB
   have hcell:=aA0 (fun w' (kk:Fr ga (wr.alloc (.cells #[.int .i64 (x:Int),.slice V p.rules[k].sets[j].value.length vc] 197)) w')=>by
    have hbx:=Blk.new wr #[.int .i64 (x:Int),.slice V p.rules[k].sets[j].value.length vc] 197;have hsz:=kk.1;simp only [World.size_alloc] at hsz
    have hn1:wr.heap.size≠ga:=by omega
    have hold:∀ b o u,b<w.heap.size->w.cell? ⟨b,o,none⟩=some u->w'.cell? ⟨b,o,none⟩=some u:=fun b o u hb hc =>
     (kk.cell (by simp;omega) (by omega)).trans ((HWA.cell hb).trans hc)
    exact show w'.cell? ⟨wr.heap.size,0,none⟩=some (.int .i64 (x:Int))/\w'.cell? ⟨wr.heap.size,1,none⟩=some (.slice V p.rules[k].sets[j].value.length vc)/\w'.cell? ⟨B,1,none⟩=some (.slice (some ⟨bV,oV,none⟩) p.vars.length k1)/\w'.cell? ⟨B,3,none⟩=some (.pointer (some ⟨S,0,none⟩))/\w'.cell? ⟨B,4,none⟩=some (.slice (some ⟨bT,oT,none⟩) (aAb p g).length kt)/\w'.cell? ⟨bV,oV+x*6+1,none⟩=some (.int .i64 p.vars[x].kind)/\w'.cell? ⟨bT,oT+v,none⟩=some (.slice (some ⟨bP,oP,none⟩) p.vars.length rT)/\w'.cell? ⟨bP,oP+x*2,none⟩=some (.int .i64 lo)/\w'.cell? ⟨bP,oP+x*2+1,none⟩=some (.int .i64 hi)/\wr.heap.size<w'.heap.size/\B<w'.heap.size/\bV<w'.heap.size/\bT<w'.heap.size/\bP<w'.heap.size from
     ⟨(kk.cell (by simp) hn1).trans (hbx.cell 0 rfl),(kk.cell (by simp) hn1).trans (hbx.cell 1 rfl),hold _ _ _ hzB zB1,hold _ _ _ hzB zB3,hold _ _ _ hzB zB4,hold _ _ _ hbV cV,hold _ _ _ hbT cT,hold _ _ _ hbP cP1,hold _ _ _ hbP cP2,by omega,by omega,by omega,by omega,by omega⟩)
   have HG:=Fr.refl ga (wr.alloc (.cells #[.int .i64 (x:Int),.slice V p.rules[k].sets[j].value.length vc] 197));have HOA:=aA0 (HAB.owns HO.out);have hdx:decide (x<p.vars.length)=true:=by simpa using hxl
   have hxc:x<c[v].length:=by rw [HCL.out];exact hxl
   have hdc:decide (x<c[v].length)=true:=by simpa using hxc
   have hvT:v<(aAb p g).length:=by rw [HTL.out];exact hv
   have hdT:decide (v<(aAb p g).length)=true:=by simpa using hvT
   clear zB1 zB3 zB4 cV cP1 cP2 hsl HAB;go_wp2;replace HWA:=HWA.drew;replace HG:=HG.drew;replace HOA:=aA0 (HOA.out.drew)
   go_region_held3 (fun w'=>w'.cell? ⟨wr.heap.size,0,none⟩=some (.int .i64 (x:Int))/\w'.cell? ⟨wr.heap.size,1,none⟩=some (.slice V p.rules[k].sets[j].value.length vc)/\w'.cell? ⟨B,1,none⟩=some (.slice (some ⟨bV,oV,none⟩) p.vars.length k1)/\w'.cell? ⟨B,3,none⟩=some (.pointer (some ⟨S,0,none⟩))/\w'.cell? ⟨B,4,none⟩=some (.slice (some ⟨bT,oT,none⟩) (aAb p g).length kt)/\w'.cell? ⟨bV,oV+x*6+1,none⟩=some (.int .i64 p.vars[x].kind)/\w'.cell? ⟨bT,oT+v,none⟩=some (.slice (some ⟨bP,oP,none⟩) p.vars.length rT)/\w'.cell? ⟨bP,oP+x*2,none⟩=some (.int .i64 lo)/\w'.cell? ⟨bP,oP+x*2+1,none⟩=some (.int .i64 hi)/\wr.heap.size<w'.heap.size/\B<w'.heap.size/\bV<w'.heap.size/\bT<w'.heap.size/\bP<w'.heap.size) (exact hcell.out _ HG) (first
    | (go_simp;go_at_call 122;refine (aL7 S p g _ c v _ _ _ _ (HS.out _ HWA) (HC.out _ HWA) (aCa.keep HVT.out HWA) HSK.out HE.out).mono ?_;rintro e w4 ⟨rfl,hbb⟩;replace HWA:=HWA.trans hbb;replace HG:=HG.trans (Fr.of_bel hbb);replace HOA:=aA0 (hbb.owns HOA.out);clear hbb))
   go_wp2_with fail
   have hmx:x<(aDx p g c v (p.rules[k].sets.take j)).length:=by rw [HML.out];exact hxc
   have HY:Hid (((aDx p g c v (p.rules[k].sets.take j)).map (Value.int .i64))[x]?=some (.int .i64 (aDx p g c v (p.rules[k].sets.take j))[x])):=by
    show _=_
    rw [List.getElem?_map,List.getElem?_eq_getElem hmx];rfl
   replace HWA:=HWA.drew;replace HG:=HG.drew;replace HOA:=aA0 (HOA.out.drew)
   go_region_held3 (fun w'=>w'.cell? ⟨wr.heap.size,0,none⟩=some (.int .i64 (x:Int))/\w'.cell? ⟨wr.heap.size,1,none⟩=some (.slice V p.rules[k].sets[j].value.length vc)/\w'.cell? ⟨B,1,none⟩=some (.slice (some ⟨bV,oV,none⟩) p.vars.length k1)/\w'.cell? ⟨B,3,none⟩=some (.pointer (some ⟨S,0,none⟩))/\w'.cell? ⟨B,4,none⟩=some (.slice (some ⟨bT,oT,none⟩) (aAb p g).length kt)/\w'.cell? ⟨bV,oV+x*6+1,none⟩=some (.int .i64 p.vars[x].kind)/\w'.cell? ⟨bT,oT+v,none⟩=some (.slice (some ⟨bP,oP,none⟩) p.vars.length rT)/\w'.cell? ⟨bP,oP+x*2,none⟩=some (.int .i64 lo)/\w'.cell? ⟨bP,oP+x*2+1,none⟩=some (.int .i64 hi)/\wr.heap.size<w'.heap.size/\B<w'.heap.size/\bV<w'.heap.size/\bT<w'.heap.size/\bP<w'.heap.size) (first | exact hcell.out _ HG | exact hcell.out _ (HG.set _ _)) (first
    | (go_simp;go_at_call 123;refine (bHa p.vars[x].kind (lo,hi) _ _).mono ?_;rintro e w5 ⟨rfl,hbb⟩;replace HWA:=HWA.trans hbb;replace HG:=HG.trans (Fr.of_bel hbb);replace HOA:=aA0 (hbb.owns HOA.out);clear hbb;have y1:=(aAj HOA.out HY.out);obtain ⟨q1,e1,_,_,y1,z1⟩:=y1;obtain rfl:ga=q1:=(by simpa using e1);clear e1))
   go_wp2_with fail
   go_roundg (p.rules[k].sets.length-(j+1))
   case rel =>
    refine ⟨j+1,by omega,rfl,by go_num,?_,HWA.setCell (by simp;omega) _⟩
    have hst:=(HOA.out.stored x (.int .i64 (aIq p.vars[x].kind (lo,hi) (aBd g c v (-1) (aB9 p.rules[k].sets[j].value))))).1;show World.ownsRow _ _ _ _ _ _ _
    rw [HMV.out j hlt,HX.out,Int.toNat_natCast,HSV.out,List.map_set];exact hst
   case measure=>omega
  .have hd0:decide (j<p.rules[k].sets.length)=false:=by simpa using hlt
   obtain rfl:j=p.rules[k].sets.length:=by omega
   go_wp2_with fail
   go_ret;have hO:=HO.out;rw [List.take_of_length_le (Nat.le_refl _)] at hO;obtain ⟨hn,hN⟩:=aKj hO;exact ⟨_,c3,by rw [<- hn];rfl,hN,HW⟩
end Go.Proofs.YtmoebklkkjbigaaGreatDoor

