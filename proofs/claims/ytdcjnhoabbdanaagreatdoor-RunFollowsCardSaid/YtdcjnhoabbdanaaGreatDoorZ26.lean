/- Merged. -/
import Derived.Test.YtdcjnhoabbdanaaGreatDoorZ24
set_option linter.unusedSimpArgs false
set_option linter.unnecessarySimpa false
set_option linter.unusedVariables false
set_option maxRecDepth 100000
set_option maxHeartbeats 4000000
open Go.Proofs.Tryz

namespace Go.Proofs.YtdcjnhoabbdanaaGreatDoor
open Go.RowKit
theorem aKz (B bm bc:Nat) (p:Prg) (g:Graph) (vc:Value) (c:aA7) (v:Nat) (w:World) (hM:aE9 w B p g) (hC:aAy w vc c) (hs:SOK p g c v) (hL:aAw p=true)
  (c1:w.cell? ⟨bm,0,none⟩=some (.pointer (some ⟨B,0,none⟩))) (c2:w.cell? ⟨bc,0,none⟩=some vc) (_l1:bm<w.heap.size) (_l2:bc<w.heap.size) :
  Calls prog 107 #[.int .i64 v,.pointer (some ⟨bm,0,none⟩),.pointer (some ⟨bc,0,none⟩)] w fun e w'=>e = .returned (.bool (decide (0<=aCb p.rules g c v)))/\Bel w w':=by
 have HM:=aA0 hM;clear hM;have HC:=aA0 hC;obtain ⟨AC,kc,rfl,_,_,_⟩:=hC;have HK:=aA0 hs;clear hs;have HL:=aA0 hL;clear hL;go_enter func107,ntmps107
 go_wp2_with (go_at_call 108;refine (aK5 B p g _ c v _ HM.out HC.out HK.out HL.out).mono ?_;rintro e w' ⟨rfl,hb⟩)
 go_ret;exact ⟨rfl,hb⟩
theorem aP5 {p:Prg} {g:Graph} {c:aA7} (hm:aCv p g c=0):(aAz p g).length=c.length:=((aCa.1 (aB8 hm).2).1).symm
theorem aHk (B:Nat) (p:Prg) (g:Graph) (vc:Value) (c:aA7) (w:World) (hM:aE9 w B p g) (hC:aAy w vc c) (hm:aCv p g c=0) (hL:aAw p=true) :
  Calls prog 85 #[.pointer (some ⟨B,0,none⟩),vc] w fun e w'=>e = .returned (.int .u32 (aAj p g c:Nat))/\Bel w w':=by
 have HM:=aA0 (fun w' (k:Bel w w')=>hM.keep k);have HC:=aA0 (fun w' (k:Bel w w')=>hC.keep k);obtain ⟨AC,kc,rfl,_,_,_⟩:=hC;obtain ⟨A1,k1,A2,k2,S,AT,kt,hB,_,_,_⟩:=hM;have hle:c.length<=24:=by rw [aG0 hm];exact (aAp (aB8 hm).1).2.1.le
 have z4:=hB.cell 4 (v := .slice AT (aAz p g).length kt) rfl;have zl:=hB.lt;have HK:=aA0 (fun v (hv:v<c.length)=>aN7 hm hv);have HT:=aA0 (aP5 hm);have HL:=aA0 hL;clear hL;clear hB;have HW:=Bel.refl ((w.alloc (.cells #[.pointer (some ⟨B,0,none⟩)] 65)).alloc (.cells #[.slice AC c.length kc] 30));go_enter func85,ntmps85;rw [HT.out] at z4
 go_wp2_with (go_at_call 106;refine (aXi 107 #[.pointer (some ⟨w.heap.size,0,none⟩),.pointer (some ⟨w.heap.size+1,0,none⟩)] (fun v=>decide (0<=aCb p.rules g c v)) c.length _ (fun v w2 hv hb=>by
   have h2:=box2 hb
   exact aKz B _ _ p g _ c v w2 (HM.out _ (aA1 hb)) (HC.out _ (aA1 hb)) (HK.out v hv) HL.out (h2.1 0 _ rfl) (h2.2.1 0 _ rfl) (by have:=h2.2.2;omega) h2.2.2) (fun a w2=>by kernel_rfl) hle).mono ?_;rintro e w' ⟨rfl,hb⟩;replace HW:=HW.trans hb)
 go_ret;exact ⟨rfl,aA1 HW⟩
theorem aY6 {w:World} {AT:Option Addr} {kt:Nat} {p:Prg} {g:Graph} {v:Nat} (h:aIu w (.slice AT (aAz p g).length kt) (aAz p g)) (hv:v<(aAz p g).length) :
  ∃ b o R rc,AT=some ⟨b,o,none⟩/\b<w.heap.size/\w.cell? ⟨b,o+v,none⟩=some (.slice R p.vars.length rc)/\aL5 w R p.vars.length (aIo p g v):=by
 obtain ⟨A,c,e,hT,_,_⟩:=h;obtain ⟨rfl,rfl⟩:AT=A/\kt=c:=by simpa using e
 obtain ⟨b,o,R,rc,h1,h2,h3,h4,_,_⟩:=hT.at_ v hv;have e1:(aAz p g)[v]=aIo p g v:=aEx hv;have e2:(aAz p g)[v].length=p.vars.length:=by rw [e1,aC0]
 rw [e2] at h3 h4;rw [e1] at h4;exact ⟨b,o,R,rc,h1,h2,h3,h4⟩
theorem aOp {r:Rule} (h:aF4 r=true):r.sets.length<=10:=(aBy h).2.1
theorem aN5 {r:Rule} (h:aF4 r=true) {s:SetT} (hs:s∈r.sets):s.value.length<=250:=(aBy h).2.2.2 s hs
theorem aPw (B:Nat) (p:Prg) (g:Graph) (vc:Value) (c:aA7) (v k:Nat) (w:World) (hM:aE9 w B p g) (hC:aAy w vc c) (hm:aCv p g c=0) (hv:v<c.length) (hk:k<p.rules.length) (hL:aAw p=true) (hCL:aBl c=true) :
  Calls prog 110 #[.pointer (some ⟨B,0,none⟩),vc,.int .i64 v,.int .i64 k] w (aWa (aC3 p g c v p.rules[k].sets) w):=by
 have HM:=aA0 (fun w' (k:Bel w w')=>hM.keep k);have HC:=aA0 (fun w' (k:Bel w w')=>hC.keep k);obtain ⟨AC,kc,rfl,hRC,_,_⟩:=hC;obtain ⟨A1,k1,A2,k2,S,AT,kt,hB,hP,hS,hT⟩:=hM;have HB:=aA0 (fun w' (k:Bel w w')=>hB.keep k);have HS:=aA0 (fun w' (k:Bel w w')=>hS.keep k);have HTV:=aA0 (fun w' (k:Bel w w')=>aIu.keep hT k);have HSK:=aA0 (aN7 hm hv);obtain ⟨b0,o0,R,rc,rfl,hb0,hcell0,hI,_,_⟩:=hRC.at_ v hv;have HI:=aA0 hI;have hle10:=(aBx hCL).2 _ (List.getElem_mem hv);obtain ⟨A1',k1',A2',k2',eP,hV,_,_,hR,_,_⟩:=hP;obtain ⟨⟨rfl,rfl⟩,rfl,rfl⟩:(A1=A1'/\k1=k1')/\A2=A2'/\k2=k2':=by simpa using eP
 have HV:=aA0 (fun w' (k:Bel w w')=>aHs.keep hV k);obtain ⟨b1,o1,G,gc,SS,sc,rfl,hb1,_,_,cs,_,_,_,hSets,_,_⟩:=hR.at_ k hk;have HSets:=aA0 (fun w' (k:Bel w w')=>aKm.keep hSets k);have z2:=hB.cell 2 (v := .slice (some ⟨b1,o1,none⟩) p.rules.length k2) rfl;have zl:=hB.lt;have hdv:decide (v<c.length)=true:=by simpa using hv
 have hdk:decide (k<p.rules.length)=true:=by simpa using hk
 obtain ⟨j0,hj0,hy0,hy1,hy2⟩:=info_parts aK1;clear hI hRC hV hR hSets hB hS hT eP;have HW:=Bel.refl w;go_enter func110,ntmps110
 go_wp2_with (at_builtin;go_must (refine aFa _ rfl (.const (.slice none 0 0)) (.tmp 16) 26 rfl w.heap.size 3 j0 (.int .i64 0) 1 8 underlying26 hj0 hy0 hy1 hy2 rfl (by decide) none 0 0 [] rfl (World.ownsRow_nil _ _ _ _) R c[v].length rc (c[v].map (Value.int .i64)) rfl HI.out.cells (aF5 _) (by unfold maxLen;omega) (by omega) (Nat.le_refl _) ?_);intro A3 c3 w3 hown3 hgr3 _;rw [List.nil_append,Nat.zero_add] at hown3;replace HW:=HW.grown hgr3 (fun k hk=>by cases hk);obtain ⟨_,hN⟩:=aKc hown3;obtain ⟨hn1,hn2⟩:=aE3 hown3;have HO:=aA0 hown3;have z2':=(HB.out _ HW).cell 2 (v := .slice (some ⟨b1,o1,none⟩) p.rules.length k2) rfl;have cs':=(HW.cell hb1).trans cs;have zl':=(HB.out _ HW).lt;clear hown3 hgr3 hN)
 clear z2 zl z2' cs cs' zl' hdk;have hcl:c[v].length=p.vars.length:=by have:=aXu hm hv;rwa [aAa hv] at this
 have HCL:=aA0 hcl;have HST:=aA0 (fun (s:SetT) hs=>aQb (aAp (aB8 hm).1).1 (List.getElem_mem hk) (s:=s) hs);have HSL:=aA0 (fun (s:SetT) hs=>aN5 ((aB7 hL).2.2.2.2 _ (List.getElem_mem hk)) (s:=s) hs);have hls:=aOp ((aB7 hL).2.2.2.2 _ (List.getElem_mem hk));have HMV:Hid (∀ j (hj:j<p.rules[k].sets.length),aC3 p g c v (p.rules[k].sets.take (j+1))=(aC3 p g c v (p.rules[k].sets.take j)).set p.rules[k].sets[j].var.toNat (aId p g c v p.rules[k].sets[j])):=fun j hj=>aN8 _ _ _ _ _ _ hj;have HML:Hid (∀ j,(aC3 p g c v (p.rules[k].sets.take j)).length=c[v].length):=fun j=>by rw [aK6,aAa hv]
 have HO0:Hid (w3.ownsRow w.heap.size 3 1 (.slice A3 c[v].length c3) c[v].length ((aC3 p g c v (p.rules[k].sets.take 0)).map (Value.int .i64))):=by
  have:=HO.out;show World.ownsRow _ _ _ _ _ _ _
  rw [List.take_zero];unfold aC3;rw [aAa hv];exact this
 have hpv:0<p.vars.length:=by have:=(aBi (aAp (aB8 hm).1).1).2.1;omega
 obtain ⟨ga,hga⟩:∃ ga,A3=some ⟨ga,0,none⟩:=by
  obtain ⟨ga,cap,hv',_⟩:=HO.out.form (by omega)
  injection hv' with hA
  exact ⟨ga,hA⟩
 subst hga;have hTl:(aAz p g).length=c.length:=aP5 hm;have HTL:=aA0 hTl;obtain ⟨bT,oT,RT,rT,rfl,hbT,cT,hPT⟩:=aY6 (HTV.out _ (Bel.refl w)) (v:=v) (by omega)
 have HPT:=aA0 hPT;clear hTl hcl HO hL hPT
 go_loopg [11,12,28] p.rules[k].sets.length (fun m _x _y z wr=>∃ j:Nat,j<=p.rules[k].sets.length/\m=p.rules[k].sets.length-j/\z = .int .i64 j/\Hid (wr.ownsRow w.heap.size 3 1 (.slice (some ⟨ga,0,none⟩) c[v].length c3) c[v].length ((aC3 p g c v (p.rules[k].sets.take j)).map (Value.int .i64)))/\Bel w wr)
 case atStart=>exact ⟨0,by omega,rfl,rfl,HO0,HW⟩
 case round =>
  clear HO0 HW;obtain ⟨j,hj,rfl,rfl,HO,HW⟩:=hrel
  by_cases hlt:j<p.rules[k].sets.length
  .have hd0:decide (j<p.rules[k].sets.length)=true:=by simpa using hlt
   obtain ⟨t1,t2,t4,t5,hx0,hx1⟩:=HST.out _ (List.getElem_mem hlt);obtain ⟨x,hx⟩:=Int.eq_ofNat_of_zero_le hx0;have hxl:x<p.vars.length:=by omega
   have hsl:=HSL.out _ (List.getElem_mem hlt);have HE:Hid (EOK p p.rules[k].sets[j].value):=⟨t1,t2,t4,t5,by omega⟩
   obtain ⟨bs,os,V,vc,rfl,hbs,s0,s1,hVT,_,_⟩:=(HSets.out _ (Bel.refl w)).at_ j hlt;replace s0:=(HW.cell hbs).trans s0;replace s1:=(HW.cell hbs).trans s1;have hbs':bs<wr.heap.size:=Nat.lt_of_lt_of_le hbs HW.size;have HVT:=aA0 hVT;rw [hx] at s0;have HX:=aA0 hx;clear hVT t1 t2 t4 t5 hx hx0 hx1;obtain ⟨bV,oV,eV,hbV,_,cV,_⟩:=(HV.out _ (Bel.refl w)).at_ x hxl;subst eV;obtain ⟨bP,oP,eP,hbP,cP1,cP2⟩:=HPT.out.at_ x (by rw [aC0];exact hxl)
   subst eP;obtain ⟨lo,hlo⟩:∃ lo,lo=((aIo p g v)[x]'(by rw [aC0];exact hxl)).1:=⟨_,rfl⟩
   obtain ⟨hi,hhi⟩:∃ hi,hi=((aIo p g v)[x]'(by rw [aC0];exact hxl)).2:=⟨_,rfl⟩
   rw [<- hlo] at cP1;rw [<- hhi] at cP2
   have hsv:aId p g c v p.rules[k].sets[j]=aFf p.vars[x].kind (lo,hi) (aAs g c v (-1) (aAt p.rules[k].sets[j].value)):=by
    unfold aId aW0;rw [HX.out,Int.toNat_natCast,aAa hxl,hlo,hhi]
    congr 1
    rw [aQ8]
   have HSV:=aA0 hsv;clear hsv hlo hhi;have hzB:=(HB.out _ (Bel.refl w)).lt;have zB1:=(HB.out _ (Bel.refl w)).cell 1 (v := .slice (some ⟨bV,oV,none⟩) p.vars.length k1) rfl;have zB3:=(HB.out _ (Bel.refl w)).cell 3 (v := .pointer (some ⟨S,0,none⟩)) rfl;have zB4:=(HB.out _ (Bel.refl w)).cell 4 (v := .slice (some ⟨bT,oT,none⟩) (aAz p g).length kt) rfl;have hga:=aBf HO.out;have hwr:=HW.size;have HAB:=(Bel.refl wr).alloc (.cells #[.int .i64 (x:Int),.slice V p.rules[k].sets[j].value.length vc] 95);have HWA:=HW.trans HAB
   have hcell:=aA0 (fun w' (kk:Fr ga (wr.alloc (.cells #[.int .i64 (x:Int),.slice V p.rules[k].sets[j].value.length vc] 95)) w')=>by
    have hbx:=Blk.new wr #[.int .i64 (x:Int),.slice V p.rules[k].sets[j].value.length vc] 95;have hsz:=kk.1;simp only [World.size_alloc] at hsz
    have hn1:wr.heap.size≠ga:=by omega
    have hold:∀ b o u,b<w.heap.size->w.cell? ⟨b,o,none⟩=some u->w'.cell? ⟨b,o,none⟩=some u:=fun b o u hb hc =>
     (kk.cell (by simp;omega) (by omega)).trans ((HWA.cell hb).trans hc)
    exact show w'.cell? ⟨wr.heap.size,0,none⟩=some (.int .i64 (x:Int))/\w'.cell? ⟨wr.heap.size,1,none⟩=some (.slice V p.rules[k].sets[j].value.length vc)/\w'.cell? ⟨B,1,none⟩=some (.slice (some ⟨bV,oV,none⟩) p.vars.length k1)/\w'.cell? ⟨B,3,none⟩=some (.pointer (some ⟨S,0,none⟩))/\w'.cell? ⟨B,4,none⟩=some (.slice (some ⟨bT,oT,none⟩) (aAz p g).length kt)/\w'.cell? ⟨bV,oV+x*6+1,none⟩=some (.int .i64 p.vars[x].kind)/\w'.cell? ⟨bT,oT+v,none⟩=some (.slice (some ⟨bP,oP,none⟩) p.vars.length rT)/\w'.cell? ⟨bP,oP+x*2,none⟩=some (.int .i64 lo)/\w'.cell? ⟨bP,oP+x*2+1,none⟩=some (.int .i64 hi)/\wr.heap.size<w'.heap.size/\B<w'.heap.size/\bV<w'.heap.size/\bT<w'.heap.size/\bP<w'.heap.size from
     ⟨(kk.cell (by simp) hn1).trans (hbx.cell 0 rfl),(kk.cell (by simp) hn1).trans (hbx.cell 1 rfl),hold _ _ _ hzB zB1,hold _ _ _ hzB zB3,hold _ _ _ hzB zB4,hold _ _ _ hbV cV,hold _ _ _ hbT cT,hold _ _ _ hbP cP1,hold _ _ _ hbP cP2,by omega,by omega,by omega,by omega,by omega⟩)
   have HG:=Fr.refl ga (wr.alloc (.cells #[.int .i64 (x:Int),.slice V p.rules[k].sets[j].value.length vc] 95));have HOA:=aA0 (HAB.owns HO.out);have hdx:decide (x<p.vars.length)=true:=by simpa using hxl
   have hxc:x<c[v].length:=by rw [HCL.out];exact hxl
   have hdc:decide (x<c[v].length)=true:=by simpa using hxc
   have hvT:v<(aAz p g).length:=by rw [HTL.out];exact hv
   have hdT:decide (v<(aAz p g).length)=true:=by simpa using hvT
   clear zB1 zB3 zB4 cV cP1 cP2 hsl HAB;go_wp2;replace HWA:=HWA.drew;replace HG:=HG.drew;replace HOA:=aA0 (HOA.out.drew)
   go_region_held3 (fun w'=>w'.cell? ⟨wr.heap.size,0,none⟩=some (.int .i64 (x:Int))/\w'.cell? ⟨wr.heap.size,1,none⟩=some (.slice V p.rules[k].sets[j].value.length vc)/\w'.cell? ⟨B,1,none⟩=some (.slice (some ⟨bV,oV,none⟩) p.vars.length k1)/\w'.cell? ⟨B,3,none⟩=some (.pointer (some ⟨S,0,none⟩))/\w'.cell? ⟨B,4,none⟩=some (.slice (some ⟨bT,oT,none⟩) (aAz p g).length kt)/\w'.cell? ⟨bV,oV+x*6+1,none⟩=some (.int .i64 p.vars[x].kind)/\w'.cell? ⟨bT,oT+v,none⟩=some (.slice (some ⟨bP,oP,none⟩) p.vars.length rT)/\w'.cell? ⟨bP,oP+x*2,none⟩=some (.int .i64 lo)/\w'.cell? ⟨bP,oP+x*2+1,none⟩=some (.int .i64 hi)/\wr.heap.size<w'.heap.size/\B<w'.heap.size/\bV<w'.heap.size/\bT<w'.heap.size/\bP<w'.heap.size) (exact hcell.out _ HG) (first
    | (go_simp;go_at_call 129;refine (aJ8 S p g _ c v _ _ _ _ (HS.out _ HWA) (HC.out _ HWA) (aB0.keep HVT.out HWA) HSK.out HE.out).mono ?_;rintro e w4 ⟨rfl,hbb⟩;replace HWA:=HWA.trans hbb;replace HG:=HG.trans (Fr.of_bel hbb);replace HOA:=aA0 (hbb.owns HOA.out);clear hbb))
   go_wp2_with fail
   have hmx:x<(aC3 p g c v (p.rules[k].sets.take j)).length:=by rw [HML.out];exact hxc
   have HY:Hid (((aC3 p g c v (p.rules[k].sets.take j)).map (Value.int .i64))[x]?=some (.int .i64 (aC3 p g c v (p.rules[k].sets.take j))[x])):=by
    show _=_
    rw [List.getElem?_map,List.getElem?_eq_getElem hmx];rfl
   replace HWA:=HWA.drew;replace HG:=HG.drew;replace HOA:=aA0 (HOA.out.drew)
   go_region_held3 (fun w'=>w'.cell? ⟨wr.heap.size,0,none⟩=some (.int .i64 (x:Int))/\w'.cell? ⟨wr.heap.size,1,none⟩=some (.slice V p.rules[k].sets[j].value.length vc)/\w'.cell? ⟨B,1,none⟩=some (.slice (some ⟨bV,oV,none⟩) p.vars.length k1)/\w'.cell? ⟨B,3,none⟩=some (.pointer (some ⟨S,0,none⟩))/\w'.cell? ⟨B,4,none⟩=some (.slice (some ⟨bT,oT,none⟩) (aAz p g).length kt)/\w'.cell? ⟨bV,oV+x*6+1,none⟩=some (.int .i64 p.vars[x].kind)/\w'.cell? ⟨bT,oT+v,none⟩=some (.slice (some ⟨bP,oP,none⟩) p.vars.length rT)/\w'.cell? ⟨bP,oP+x*2,none⟩=some (.int .i64 lo)/\w'.cell? ⟨bP,oP+x*2+1,none⟩=some (.int .i64 hi)/\wr.heap.size<w'.heap.size/\B<w'.heap.size/\bV<w'.heap.size/\bT<w'.heap.size/\bP<w'.heap.size) (first | exact hcell.out _ HG | exact hcell.out _ (HG.set _ _)) (first
    | (go_simp;go_at_call 130;refine (aWn p.vars[x].kind (lo,hi) _ _).mono ?_;rintro e w5 ⟨rfl,hbb⟩;replace HWA:=HWA.trans hbb;replace HG:=HG.trans (Fr.of_bel hbb);replace HOA:=aA0 (hbb.owns HOA.out);clear hbb;have y1:=(aCn HOA.out HY.out);obtain ⟨q1,e1,_,_,y1,z1⟩:=y1;obtain rfl:ga=q1:=(by simpa using e1);clear e1))
   go_wp2_with fail
   go_roundg (p.rules[k].sets.length-(j+1))
   case rel =>
    refine ⟨j+1,by omega,rfl,by go_num,?_,HWA.setCell (by simp;omega) _⟩
    have hst:=(HOA.out.stored x (.int .i64 (aFf p.vars[x].kind (lo,hi) (aAs g c v (-1) (aAt p.rules[k].sets[j].value))))).1;show World.ownsRow _ _ _ _ _ _ _
    rw [HMV.out j hlt,HX.out,Int.toNat_natCast,HSV.out,List.map_set];exact hst
   case measure=>omega
  .have hd0:decide (j<p.rules[k].sets.length)=false:=by simpa using hlt
   obtain rfl:j=p.rules[k].sets.length:=by omega
   go_wp2_with fail
   go_ret;have hO:=HO.out;rw [List.take_of_length_le (Nat.le_refl _)] at hO;obtain ⟨hn,hN⟩:=aKc hO;exact ⟨_,c3,by rw [<- hn];rfl,hN,HW⟩
def aL2 (p:Prg) (g:Graph) (c:aA7) (S v:Nat):aA7:=(List.range c.length).map fun u=>if u<v/\S.testBit u=true then aKx p g c u else c.getD u []
theorem aEt (p:Prg) (g:Graph) (c:aA7) (S v:Nat):(aL2 p g c S v).length=c.length:=by simp [aL2]
theorem aKd (p:Prg) (g:Graph) (c:aA7) (S v:Nat) (i:Nat):(aL2 p g c S v)[i]?=if i<c.length then some (if i<v/\S.testBit i=true then aKx p g c i else c.getD i []) else none:=by
 unfold aL2;rw [List.getElem?_map]
 by_cases h:i<c.length
 .rw [List.getElem?_range h,if_pos h];rfl
 .rw [if_neg h,List.getElem?_eq_none (by simp;omega)];rfl
theorem aOw (p:Prg) (g:Graph) (c:aA7) (S:Nat):aL2 p g c S 0=c:=by
 apply List.ext_getElem?
 intro i
 rw [aKd]
 by_cases h:i<c.length
 .rw [if_pos h,if_neg (by omega),aAa h,List.getElem?_eq_getElem h]
 .rw [if_neg h,List.getElem?_eq_none (by omega)]
theorem aOv (p:Prg) (g:Graph) (c:aA7) (S:Nat):aL2 p g c S c.length=aBe p g c S:=by
 unfold aL2 aBe;refine List.map_congr_left fun u hu=>?_
 rw [List.mem_range] at hu;cases hb:S.testBit u with
 | true=>rw [if_pos ⟨hu,rfl⟩,if_pos rfl]
 | false=>rw [if_neg (fun h=>by cases h.2),if_neg (by decide)]
theorem aRn {p:Prg} {g:Graph} {c:aA7} {S v:Nat} (hb:S.testBit v=true):(aL2 p g c S v).set v (aKx p g c v)=aL2 p g c S (v+1):=by
 apply List.ext_getElem?
 intro i
 rw [List.getElem?_set,aKd,aKd,aEt]
 by_cases he:v=i
 .subst he
  rw [if_pos rfl]
  by_cases h:v<c.length
  .rw [if_pos h,if_pos h,if_pos ⟨by omega,hb⟩]
  .rw [if_neg h,if_neg h]
 .rw [if_neg he]
  have e:(i<v/\S.testBit i=true)↔(i<v+1/\S.testBit i=true):=by
   constructor
   .rintro ⟨h,h'⟩;exact ⟨by omega,h'⟩
   .rintro ⟨h,h'⟩;exact ⟨by omega,h'⟩
  simp only [e]
theorem aUc {p:Prg} {g:Graph} {c:aA7} {S v:Nat} (hb:S.testBit v=false):aL2 p g c S v=aL2 p g c S (v+1):=by
 apply List.ext_getElem?
 intro i
 rw [aKd,aKd]
 have e:(i<v/\S.testBit i=true)↔(i<v+1/\S.testBit i=true):=by
  constructor
  .rintro ⟨h,h'⟩;exact ⟨by omega,h'⟩
  .rintro ⟨h,h'⟩
   refine ⟨?_,h'⟩
   have:i≠v:=by rintro rfl;rw [hb] at h';cases h'
   omega
 simp only [e]
theorem aO6 (B:Nat) (p:Prg) (g:Graph) (vc:Value) (c:aA7) (S:Nat) (w:World) (hM:aE9 w B p g) (hC:aAy w vc c) (hm:aCv p g c=0) (hS:S<4294967296) (hen:∀ v,v<c.length->S.testBit v=true->0<=aCb p.rules g c v) (hL:aAw p=true) (hCL:aBl c=true) :
  Calls prog 88 #[.pointer (some ⟨B,0,none⟩),vc,.int .u32 (S:Int)] w (aSf (aBe p g c S) w):=by
 have HM:=aA0 (fun w' (k:Bel w w')=>hM.keep k);have HC:=aA0 (fun w' (k:Bel w w')=>hC.keep k);obtain ⟨AC,kc,rfl,_,_,_⟩:=hC;have hle:c.length<=24:=by rw [aG0 hm];exact (aAp (aB8 hm).1).2.1.le
 have HK:=aA0 (fun v (hv:v<c.length)=>aN7 hm hv);have HMM:=aA0 hm;have HEN:=aA0 hen;have HL:=aA0 hL;have HCL:=aA0 hCL;clear hm hen hL hCL hM;have HW:=Bel.refl w;go_enter func88,ntmps88
 go_wp2_with (go_at_call 51;refine (aI1 _ c _ (HC.out _ HW) HCL.out).mono ?_;rintro e w' ⟨gb,cap,hs,rfl,hO,hsn,hb⟩;have HO:=aA0 hO;have HSN:=aA0 hsn;clear hsn;replace HW:=HW.trans hb;clear hb hO)
 go_loopg [8,13] c.length (fun m _x z wr=>∃ (v:Nat) (hs:List Value),v<=c.length/\m=c.length-v/\z = .int .i64 v/\Hid (OwnC wr w.heap.size gb cap (aL2 p g c S v) hs)/\Hid (aGu w.heap.size wr hs)/\Bel w wr)
 case atStart=>exact ⟨0,hs,by omega,rfl,rfl,by show OwnC _ _ _ _ _ _;rw [aOw];exact HO.out,HSN,HW⟩
 case round =>
  clear HO HSN HW;obtain ⟨v,hs,hv,rfl,rfl,HO,HSN,HW⟩:=hrel
  by_cases hlt:v<c.length
  .have hd0:decide (v<c.length)=true:=by simpa using hlt
   cases hb:S.testBit v with
   | true =>
    have hq:bits .and .u32 ((S:Int) / 2 ^ v) 1=1:=by rw [aSn hS,hb];rfl
    have hf:=HEN.out v hlt hb;obtain ⟨k,hk⟩:=Int.eq_ofNat_of_zero_le hf;have hkl:k<p.rules.length:=by have:=(aLb p.rules g c v).2;omega
    have HFK:=aA0 hk;have HPY:=aA0 (aRn (p:=p) (g:=g) (c:=c) hb);have HMF:Hid (aKx p g c v=aC3 p g c v p.rules[k].sets):=by show _=_;unfold aKx;rw [hk,aNr hkl]
    have HSL:Hid (hs.length=c.length):=by have:=HO.out.own.1;rw [aEt] at this;show _=_;omega
    clear hf hk hb
    go_wp2_with (first
     | (go_at_call 108;refine (aK5 B p g _ c v _ (HM.out _ HW) (HC.out _ HW) (HK.out v hlt) HL.out).mono ?_;rintro e w' ⟨rfl,hbb⟩;rw [HFK.out];replace HW:=HW.trans hbb;replace HO:=aA0 (HO.out.keep hbb);replace HSN:=aA0 (HSN.out.size hbb.size);clear hbb)
     | (go_at_call 110;refine (aPw B p g _ c v k _ (HM.out _ HW) (HC.out _ HW) HMM.out hlt hkl HL.out HCL.out).mono ?_;rintro e w' ⟨R,rc,rfl,hN,hbb⟩;have hgb:=(aBf HO.out.own).2;have HWZ:=aA0 HW.size;have HN:=aA0 hN;replace HW:=HW.trans hbb;replace HO:=aA0 (HO.out.keep hbb);replace HSN:=aA0 (HSN.out.size hbb.size);have y1:=aGm HO.out.own v (by rw [HSL.out];omega);have y2:=HO.out.own.frozenAt v;have ygb:=(aBf HO.out.own).2;clear hbb hN))
    go_roundg (c.length-(v+1))
    case rel =>
     refine ⟨v+1,hs.set v (.slice R (aC3 p g c v p.rules[k].sets).length rc),by omega,rfl,by go_num,?_,(HSN.out.set HN.out HWZ.out v).size (by simp),HW.setCell (by have:=aBf HO.out.own;simp;omega) _⟩
     have h3:=HN.out;show OwnC _ _ _ _ _ _
     rw [<- HPY.out,HMF.out];exact HO.out.set (v:=v) (by rw [aEt];exact hlt) h3.1 h3.2.1 h3.2.2.1 (h3.off (by omega))
    case measure=>omega
   | false =>
    have hq:bits .and .u32 ((S:Int) / 2 ^ v) 1=0:=by rw [aSn hS,hb];rfl
    have HPN:=aA0 (aUc (p:=p) (g:=g) (c:=c) hb);clear hb
    go_wp2_with fail
    go_roundg (c.length-(v+1))
    case rel=>exact ⟨v+1,hs,by omega,rfl,by go_num,by show OwnC _ _ _ _ _ _;rw [<- HPN.out];exact HO.out,HSN,HW⟩
    case measure=>omega
  .have hd0:decide (v<c.length)=false:=by simpa using hlt
   obtain rfl:v=c.length:=by omega
   go_wp2_with fail
   go_ret;have hO:=HO.out;rw [aOv] at hO;exact ⟨gb,cap,hs,by rw [aE7];rfl,hO,HSN.out,HW⟩
theorem aPa.nil (w:World) (B:Nat):aPa w B none 0 []:=⟨aAf.nil,Nat.le_refl _,by unfold maxLen;simp,fun b o e=>by cases e⟩
theorem aAy.nil (w:World):aAy w (.slice none 0 0) []:=⟨none,0,rfl,aAf.nil,Nat.le_refl _,by unfold maxLen;omega⟩
end Go.Proofs.YtdcjnhoabbdanaaGreatDoor

