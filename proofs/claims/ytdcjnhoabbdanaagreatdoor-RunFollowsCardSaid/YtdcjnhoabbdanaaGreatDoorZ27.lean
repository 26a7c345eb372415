/- Merged. -/
import Derived.Test.YtdcjnhoabbdanaaGreatDoorZ25
import Derived.Test.YtdcjnhoabbdanaaGreatDoorZ26
set_option linter.unusedSimpArgs false
set_option linter.unnecessarySimpa false
set_option linter.unusedVariables false
set_option maxRecDepth 100000
set_option maxHeartbeats 8000000
open Go.Proofs.Tryz

namespace Go.Proofs.YtdcjnhoabbdanaaGreatDoor
open Go.RowKit
theorem aRt (v1:Value) (p:Prg) (v2:Value) (g:Graph) (v3:Value) (c:aA7) (v:Nat) (w:World) (h:aEm w v1 p) (h2:aAn w v2 g) (h3:aAy w v3 c) (hm:aCv p g c=0) (hv:v<c.length) (hen:0<=aCb p.rules g c v) (hL:aAw p=true) (hGL:aB3 g=true) (hCL:aBl c=true) :
  Calls prog 94 #[v1,v2,v3,.int .i64 v] w (aWa (aKx p g c v) w):=by
 have hR:∃ A1 k1 A2 k2,v1 = .agg #[.string p.name,.slice A1 p.vars.length k1,.slice A2 p.rules.length k2]/\aFe w A2 p.rules.length p.rules:=by
  obtain ⟨A1,k1,A2,k2,e,_,_,_,hR,_,_⟩:=h;exact ⟨A1,k1,A2,k2,e,hR⟩
 have hRC:∃ A k,v3 = .slice A c.length k/\aPb w A c.length c:=by
  obtain ⟨A,k,e,hR,_⟩:=h3;exact ⟨A,k,e,hR⟩
 obtain ⟨A1r,k1r,A2r,k2r,eR,hR⟩:=hR;obtain ⟨A5r,k5r,eC,hRC⟩:=hRC;obtain ⟨k,hk⟩:=Int.eq_ofNat_of_zero_le hen;have hkl:k<p.rules.length:=by have:=(aLb p.rules g c v).2;omega
 obtain ⟨bR,oR,G,gc,SS,sc,eA,hbR,_,_,cs,_,_,_,hSets,_,_⟩:=hR.at_ k hkl;subst eA;obtain ⟨b0,o0,R,rc,eA5,hb0,cell0,hI,_,_⟩:=hRC.at_ v hv;subst eA5;have HPV:=aA0 (fun w' (k:Bel w w')=>h.keep k);have HGV:=aA0 (fun w' (k:Bel w w')=>h2.keep k);have HCV:=aA0 (fun w' (k:Bel w w')=>h3.keep k);obtain ⟨A1,k1,A2,k2,rfl,_,_,_,_,_,_⟩:=h;obtain ⟨A3,k3,A4,k4,rfl,_,_,_,_,_,_⟩:=h2;obtain ⟨A5,k5,rfl,_,_,_⟩:=h3;have HW:=Bel.refl ((w.alloc (.cells #[.string p.name,.slice A1 p.vars.length k1,.slice A2 p.rules.length k2] 25)).alloc (.cells #[.slice A3 g.ids.length k3,.slice A4 g.ports.length k4] 29));obtain ⟨⟨e1,e2⟩,e3,e4⟩:(A1=A1r/\k1=k1r)/\A2=some ⟨bR,oR,none⟩/\k2=k2r:=by simpa using eR
 subst e1 e2 e3 e4;obtain ⟨e5,e6⟩:A5=some ⟨b0,o0,none⟩/\k5=k5r:=by simpa using eC
 subst e5 e6;have HMF:Hid (aKx p g c v=aC3 p g c v p.rules[k].sets):=by show _=_;unfold aKx;rw [hk,aNr hkl]
 have HFK:=aA0 hk;have HI:=aA0 hI;have HSets:=aA0 (fun w' (k:Bel w w')=>aKm.keep hSets k);have hle10:=(aBx hCL).2 _ (List.getElem_mem hv);have HK:=aA0 (aN7 hm hv);have HF0:=aA0 (aB8 hm).1;have HL:=aA0 hL;have HGL:=aA0 hGL;have hcl:c[v].length=p.vars.length:=by have:=aXu hm hv;rwa [aAa hv] at this
 have HCL:=aA0 hcl;have HST:=aA0 (fun (s:SetT) hs=>aQb (aAp (aB8 hm).1).1 (List.getElem_mem hkl) (s:=s) hs);have HSL:=aA0 (fun (s:SetT) hs=>aN5 ((aB7 hL).2.2.2.2 _ (List.getElem_mem hkl)) (s:=s) hs);have hls:=aOp ((aB7 hL).2.2.2.2 _ (List.getElem_mem hkl));have HMV:Hid (∀ j (hj:j<p.rules[k].sets.length),aC3 p g c v (p.rules[k].sets.take (j+1))=(aC3 p g c v (p.rules[k].sets.take j)).set p.rules[k].sets[j].var.toNat (aId p g c v p.rules[k].sets[j])):=fun j hj=>aN8 _ _ _ _ _ _ hj;have HML:Hid (∀ j,(aC3 p g c v (p.rules[k].sets.take j)).length=c[v].length):=fun j=>by rw [aK6,aAa hv]
 have hpv:0<p.vars.length:=by have:=(aBi (aAp (aB8 hm).1).1).2.1;omega
 have hgp:v<g.ports.length:=by rw [<- aG0 hm];exact hv
 have hdv:decide (v<c.length)=true:=by simpa using hv
 have hdk:decide (k<p.rules.length)=true:=by simpa using hkl
 obtain ⟨j0,hj0,hy0,hy1,hy2⟩:=info_parts aK1
 have hcell2:=aA0 (fun w' (kk:Bel ((w.alloc (.cells #[.string p.name,.slice A1 p.vars.length k1,.slice (some ⟨bR,oR,none⟩) p.rules.length k2] 25)).alloc (.cells #[.slice A3 g.ids.length k3,.slice A4 g.ports.length k4] 29)) w')=>show w'.cell? ⟨w.heap.size,0,none⟩=some (.string p.name)/\w'.cell? ⟨w.heap.size,1,none⟩=some (.slice A1 p.vars.length k1)/\w'.cell? ⟨w.heap.size,2,none⟩=some (.slice (some ⟨bR,oR,none⟩) p.rules.length k2)/\w'.cell? ⟨w.heap.size+1,0,none⟩=some (.slice A3 g.ids.length k3)/\w'.cell? ⟨w.heap.size+1,1,none⟩=some (.slice A4 g.ports.length k4)/\w'.cell? ⟨bR,oR+k*3+2,none⟩=some (.slice SS p.rules[k].sets.length sc)/\w.heap.size+1<w'.heap.size/\bR<w'.heap.size from by
  obtain ⟨q0,q1,q2,q3,q4,q5⟩:=aAi kk;have hb:=aA1 kk
  exact ⟨q0,q1,q2,q3,q4,(hb.cell hbR).trans cs,q5,Nat.lt_of_lt_of_le hbR hb.size⟩)
 clear hI hR hSets cs hm hen hk hL hGL hCL eR eC hRC hcl;go_enter func94,ntmps94
 go_wp2_with (at_builtin;go_must (refine aFa _ rfl (.const (.slice none 0 0)) (.tmp 15) 26 rfl (w.heap.size+1+1) 3 j0 (.int .i64 0) 1 8 underlying26 hj0 hy0 hy1 hy2 rfl (by decide) none 0 0 [] rfl (World.ownsRow_nil _ _ _ _) R c[v].length rc (c[v].map (Value.int .i64)) rfl (HI.out.keep (aA1 HW)).cells (aF5 _) (by unfold maxLen;omega) (by omega) (by simp) ?_);intro A6 c6 w3 hown3 hgr3 _;rw [List.nil_append,Nat.zero_add] at hown3;replace HW:=HW.grown hgr3 (fun k hk=>by cases hk);obtain ⟨hn1,hn2⟩:=aE3 hown3;have HO:=aA0 hown3;clear hown3 hgr3)
 have HO0:Hid (w3.ownsRow (w.heap.size+1+1) 3 1 (.slice A6 c[v].length c6) c[v].length ((aC3 p g c v (p.rules[k].sets.take 0)).map (Value.int .i64))):=by
  have:=HO.out;show World.ownsRow _ _ _ _ _ _ _
  rw [List.take_zero];unfold aC3;rw [aAa hv];exact this
 obtain ⟨ga,hga⟩:∃ ga,A6=some ⟨ga,0,none⟩:=by
  obtain ⟨ga,cap,hv',_⟩:=HO.out.form (by rw [HCL.out];exact hpv)
  injection hv' with hA
  exact ⟨ga,hA⟩
 subst hga;clear HO
 go_wp2_with fail
 replace HW:=HW.drew;replace HO0:=aA0 (HO0.out.drew)
 go_region_held3 (fun w'=>w'.cell? ⟨w.heap.size,0,none⟩=some (.string p.name)/\w'.cell? ⟨w.heap.size,1,none⟩=some (.slice A1 p.vars.length k1)/\w'.cell? ⟨w.heap.size,2,none⟩=some (.slice (some ⟨bR,oR,none⟩) p.rules.length k2)/\w'.cell? ⟨w.heap.size+1,0,none⟩=some (.slice A3 g.ids.length k3)/\w'.cell? ⟨w.heap.size+1,1,none⟩=some (.slice A4 g.ports.length k4)/\w'.cell? ⟨bR,oR+k*3+2,none⟩=some (.slice SS p.rules[k].sets.length sc)/\w.heap.size+1<w'.heap.size/\bR<w'.heap.size) (exact hcell2.out _ HW) (first
  | (go_simp;go_at_call 116;refine (aI7 _ p _ g _ c v _ (HPV.out _ (aA1 HW)) (HGV.out _ (aA1 HW)) (HCV.out _ (aA1 HW)) HK.out HL.out).mono ?_;rintro e w' ⟨rfl,hb⟩;rw [HFK.out];replace HW:=HW.trans hb;replace HO0:=aA0 (hb.owns HO0.out);clear hb))
 go_wp2_with fail
 go_loopg [11] p.rules[k].sets.length (fun m z wr=>∃ j:Nat,j<=p.rules[k].sets.length/\m=p.rules[k].sets.length-j/\z = .int .i64 j/\Hid (wr.ownsRow (w.heap.size+1+1) 3 1 (.slice (some ⟨ga,0,none⟩) c[v].length c6) c[v].length ((aC3 p g c v (p.rules[k].sets.take j)).map (Value.int .i64)))/\Bel ((w.alloc (.cells #[.string p.name,.slice A1 p.vars.length k1,.slice (some ⟨bR,oR,none⟩) p.rules.length k2] 25)).alloc (.cells #[.slice A3 g.ids.length k3,.slice A4 g.ports.length k4] 29)) wr)
 case atStart=>exact ⟨0,by omega,rfl,rfl,HO0,HW⟩
 case round =>
  clear HO0 HW hcell2;obtain ⟨j,hj,rfl,rfl,HO,HW⟩:=hrel
  by_cases hlt:j<p.rules[k].sets.length
  .have hd0:decide (j<p.rules[k].sets.length)=true:=by simpa using hlt
   obtain ⟨t1,t2,t4,t5,hx0,hx1⟩:=HST.out _ (List.getElem_mem hlt);obtain ⟨x,hx⟩:=Int.eq_ofNat_of_zero_le hx0;have hxl:x<p.vars.length:=by omega
   have hsl:=HSL.out _ (List.getElem_mem hlt);have HE:Hid (EOK p p.rules[k].sets[j].value):=⟨t1,t2,t4,t5,by omega⟩
   obtain ⟨bs,os,V,vc,rfl,hbs,s0,s1,hVT,_,_⟩:=(HSets.out _ (Bel.refl w)).at_ j hlt;have HVT:=aA0 (fun w' (kk:Bel w w')=>aB0.keep hVT kk);rw [hx] at s0;have HX:=aA0 hx
   have HSV:Hid (aId p g c v p.rules[k].sets[j]=aFf p.vars[x].kind (aAk p.vars[x] g v) (aAs g c v (-1) (aAt p.rules[k].sets[j].value))):=by
    show _=_
    unfold aId aW0;rw [hx,Int.toNat_natCast,aAa hxl]
   have hxc:x<c[v].length:=by rw [HCL.out];exact hxl
   have hdc:decide (x<c[v].length)=true:=by simpa using hxc
   have hmx:x<(aC3 p g c v (p.rules[k].sets.take j)).length:=by rw [HML.out];exact hxc
   have HY:Hid (((aC3 p g c v (p.rules[k].sets.take j)).map (Value.int .i64))[x]?=some (.int .i64 (aC3 p g c v (p.rules[k].sets.take j))[x])):=by
    show _=_
    rw [List.getElem?_map,List.getElem?_eq_getElem hmx];rfl
   obtain ⟨hga1,hga2⟩:=aBf HO.out
   have hcell:=aA0 (fun w' (kk:Fr ga wr w')=>show w'.cell? ⟨w.heap.size,0,none⟩=some (.string p.name)/\w'.cell? ⟨w.heap.size,1,none⟩=some (.slice A1 p.vars.length k1)/\w'.cell? ⟨w.heap.size,2,none⟩=some (.slice (some ⟨bR,oR,none⟩) p.rules.length k2)/\w'.cell? ⟨w.heap.size+1,0,none⟩=some (.slice A3 g.ids.length k3)/\w'.cell? ⟨w.heap.size+1,1,none⟩=some (.slice A4 g.ports.length k4)/\w'.cell? ⟨bs,os+j*2,none⟩=some (.int .i64 (x:Int))/\w'.cell? ⟨bs,os+j*2+1,none⟩=some (.slice V p.rules[k].sets[j].value.length vc)/\w.heap.size+1<w'.heap.size/\bs<w'.heap.size/\ga<w'.heap.size from by
    obtain ⟨q0,q1,q2,q3,q4,q5⟩:=aAi HW;have hb:=aA1 HW;have hsz:=hb.size;have hk1:=kk.1
    exact ⟨(kk.cell (by omega) (by omega)).trans q0,(kk.cell (by omega) (by omega)).trans q1,(kk.cell (by omega) (by omega)).trans q2,(kk.cell q5 (by omega)).trans q3,(kk.cell q5 (by omega)).trans q4,(kk.cell (by omega) (by omega)).trans ((hb.cell hbs).trans s0),(kk.cell (by omega) (by omega)).trans ((hb.cell hbs).trans s1),by omega,by omega,by omega⟩)
   have HG:=Fr.refl ga wr;clear hVT t1 t2 t4 t5 hx hx0 hx1 hsl s0 s1
   go_wp2_with fail
   replace HW:=HW.drew;replace HG:=HG.drew;replace HO:=aA0 (HO.out.drew)
   go_region_held3 (fun w'=>w'.cell? ⟨w.heap.size,0,none⟩=some (.string p.name)/\w'.cell? ⟨w.heap.size,1,none⟩=some (.slice A1 p.vars.length k1)/\w'.cell? ⟨w.heap.size,2,none⟩=some (.slice (some ⟨bR,oR,none⟩) p.rules.length k2)/\w'.cell? ⟨w.heap.size+1,0,none⟩=some (.slice A3 g.ids.length k3)/\w'.cell? ⟨w.heap.size+1,1,none⟩=some (.slice A4 g.ports.length k4)/\w'.cell? ⟨bs,os+j*2,none⟩=some (.int .i64 (x:Int))/\w'.cell? ⟨bs,os+j*2+1,none⟩=some (.slice V p.rules[k].sets[j].value.length vc)/\w.heap.size+1<w'.heap.size/\bs<w'.heap.size/\ga<w'.heap.size) (first | exact hcell.out _ HG | exact hcell.out _ (HG.set _ _)) (first
    | (go_simp;go_at_call 118;refine (aWi p g c v HK.out (aAt p.rules[k].sets[j].value) false (-1) _ _ _ _ p.rules[k].sets[j].value 0 _ (HGV.out _ (aA1 HW)) (HCV.out _ (aA1 HW)) (HVT.out _ (aA1 HW)) (At.whole HE.out.ok HE.out.terms) HE.out.arg HE.out.len HE.out.bound aG7).mono ?_;rintro e w4 ⟨rfl,hbb⟩;replace HW:=HW.trans hbb;replace HG:=HG.trans (Fr.of_bel hbb);replace HO:=aA0 (hbb.owns HO.out);clear hbb)
    | (go_simp;go_at_call 117;refine (aRo _ p _ g v x _ _ (HPV.out _ (aA1 HW)) (HGV.out _ (aA1 HW)) HF0.out hgp hxl HGL.out).mono ?_;rintro e w5 ⟨rfl,hbb⟩;replace HW:=HW.trans hbb;replace HG:=HG.trans (Fr.of_bel hbb);replace HO:=aA0 (hbb.owns HO.out);clear hbb;have y1:=(aCn HO.out HY.out);obtain ⟨q1,e1,_,_,y1,z1⟩:=y1;obtain rfl:ga=q1:=(by simpa using e1);clear e1))
   go_wp2_with fail
   go_roundg (p.rules[k].sets.length-(j+1))
   case rel =>
    refine ⟨j+1,by omega,rfl,by go_num,?_,HW.setCell (by simp;omega) _⟩
    have hst:=(HO.out.stored x (.int .i64 (aFf p.vars[x].kind (aAk p.vars[x] g v) (aAs g c v (-1) (aAt p.rules[k].sets[j].value))))).1;show World.ownsRow _ _ _ _ _ _ _
    rw [HMV.out j hlt,HX.out,Int.toNat_natCast,HSV.out,List.map_set];exact hst
   case measure=>omega
  .have hd0:decide (j<p.rules[k].sets.length)=false:=by simpa using hlt
   obtain rfl:j=p.rules[k].sets.length:=by omega
   go_wp2_with fail
   go_ret;have hO:=HO.out;rw [List.take_of_length_le (Nat.le_refl _)] at hO;obtain ⟨hn,hN⟩:=aKc hO;rw [HMF.out];exact ⟨_,c6,by rw [<- hn];rfl,hN.lower (by omega),aA1 HW⟩
end Go.Proofs.YtdcjnhoabbdanaaGreatDoor

