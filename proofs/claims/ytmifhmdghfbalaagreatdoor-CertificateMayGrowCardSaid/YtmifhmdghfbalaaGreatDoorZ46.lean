/- Merged. -/
import Derived.Test.YtmifhmdghfbalaaGreatDoorZ44
set_option linter.unusedSimpArgs false
set_option linter.unnecessarySimpa false
set_option linter.unusedVariables false
set_option maxRecDepth 100000
set_option maxHeartbeats 8000000
open Go.Proofs.Tryz

namespace Go.Proofs.YtmifhmdghfbalaaGreatDoor
open Go.RowKit
def aQb (w:World) (vs:List Value) (l:List (List Term)):Prop:=vs.length=l.length/\∀ (i:Nat) (x:List Term),l[i]?=some x->∃ R c,vs[i]?=some (Value.slice R x.length c)/\(∀ w',Bel w w'->aAr w' R x.length x)/\x.length<=c/\c<=maxLen
theorem aQb.append {w:World} {vs us:List Value} {l m:List (List Term)} (h:aQb w vs l) (k:aQb w us m):aQb w (vs++us) (l++m):=by
 refine ⟨by simp [h.1,k.1],fun i x hx=>?_⟩
 by_cases hi:i<l.length
 .rw [List.getElem?_append_left hi] at hx
  obtain ⟨R,c,h1,h2⟩:=h.2 i x hx;exact ⟨R,c,by rw [List.getElem?_append_left (by rw [h.1];exact hi)];exact h1,h2⟩
 .rw [List.getElem?_append_right (by omega)] at hx
  obtain ⟨R,c,h1,h2⟩:=k.2 _ x hx;exact ⟨R,c,by rw [List.getElem?_append_right (by rw [h.1];omega),h.1];exact h1,h2⟩
theorem aQb.read {w w':World} {base n c:Nat} {e:TypeId} {A:Option Addr} {vs:List Value} {l:List (List Term)} (h:aQb w vs l) (ho:w'.ownsRow base e 1 (.slice A n c) n vs) (hb:Bel w w') (hn:l.length=n):aAu w' A n l:=by
 refine ⟨hn,fun i x hx=>?_⟩
 obtain ⟨R,d,h1,h2,h3,h4⟩:=h.2 i x hx;obtain ⟨q,e1,_,q3,q4,_⟩:=aBv ho h1;exact ⟨q,0,e1,q3,R,d,by simpa using q4,h2 w' hb,h3,h4⟩
theorem aAu.vals {w:World} {A:Option Addr} {n:Nat} {l:List (List Term)} (h:aAu w A n l) (hn:l.length=n):∃ vs:List Value,(∀ w',Bel w w'->aTd w' 1 A n vs)/\(∀ u∈vs,u.oneCell'=true)/\aQb w vs l:=by
 subst hn
 by_cases hl:l.length=0
 .obtain rfl:l=[]:=List.eq_nil_of_length_eq_zero hl
  exact ⟨[],fun w' _=>⟨rfl,fun j u hj=>by simp at hj⟩,(fun u hu=>by cases hu),rfl,fun i x hx=>by simp at hx⟩
 .obtain ⟨b,o,R0,c0,rfl,hb,_⟩:=h.at_ 0 (by omega)
  have hat:∀ i (hi:i<l.length),∃ R c,w.cell? ⟨b,o+i,none⟩=some (Value.slice R l[i].length c)/\aAr w R l[i].length l[i]/\l[i].length<=c/\c<=maxLen:=fun i hi=>by
   obtain ⟨b',o',R,c,e1,_,x1,hR,q1,q2⟩:=h.at_ i hi;obtain ⟨rfl,rfl⟩:b=b'/\o=o':=by simpa using e1
   exact ⟨R,c,x1,hR,q1,q2⟩
  have hget:∀ i,((List.range l.length).map fun i=>(w.cell? ⟨b,o+i,none⟩).getD undef)[i]?=if i<l.length then some ((w.cell? ⟨b,o+i,none⟩).getD undef) else none:=fun i=>by
   by_cases hi:i<l.length
   .rw [if_pos hi];simp [hi]
   .rw [if_neg hi];simp;omega
  refine ⟨(List.range l.length).map fun i=>(w.cell? ⟨b,o+i,none⟩).getD undef,fun w' kk=>⟨by simp,fun j u hj=>?_⟩,fun u hu=>?_,by simp,fun i x hx=>?_⟩
  .rw [hget] at hj
   split at hj
   .rename_i hi
    obtain ⟨R,c,x1,_⟩:=hat j hi;rw [x1] at hj;exact ⟨b,o,rfl,by rw [kk.cell hb,x1];simpa using hj⟩
   .cases hj
  .obtain ⟨i,hi,rfl⟩:=List.mem_map.1 hu
   obtain ⟨R,c,x1,_⟩:=hat i (List.mem_range.1 hi);rw [x1];rfl
  .obtain ⟨hi,rfl⟩:=List.getElem?_eq_some_iff.1 hx
   obtain ⟨R,c,x1,hR,q1,q2⟩:=hat i hi;exact ⟨R,c,by rw [hget,if_pos hi,x1];rfl,fun w' kk=>hR.keep kk,q1,q2⟩
theorem bE5:(prog.info? 64).map (fun i=>(i.zero,i.size,i.bytes))=some (some (.slice none 0 0),1,24):=by kernel_rfl
theorem aPl (v1:Value) (p:Prg) (v2:Value) (g:Graph) (kind:Int) (AL:Option Addr) (cL:Nat) (legit:List Bool) (A:Option Addr) (ca:Nat) (l:List (List Term)) (B:Option Addr) (cb:Nat) (m:List (List Term)) (w:World) (h:aE0 w v1 p) (h2:aAl w v2 g) (hB:aDa w AL legit.length legit) (hTm:aAu w A l.length l) (hM:aAu w B m.length m) (hT:aG1 w) :
  Calls prog 14 #[v1,v2,.int .i64 kind,.slice AL legit.length cL,.slice A l.length ca,.slice B m.length cb] w fun e w'=>e = .returned (.bool true)/\Bel w w':=by
 have HPV:=aA1 (fun w' (k:Bel w w')=>h.keep k);have HGV:=aA1 (fun w' (k:Bel w w')=>h2.keep k);have HBR:=aA1 (fun w' (k:Bel w w')=>hB.keep k);have HTR:=aA1 (fun w' (k:Bel w w')=>hTm.keep k);have HT:=aA1 (fun w' (k:Bel w w')=>hT.keep k);obtain ⟨A1,k1,A2,k2,rfl,_,_,_,_,_,_⟩:=h;obtain ⟨A3,k3,A4,k4,rfl,_,_,_,_,_,_⟩:=h2;have HW:=Bel.refl ((w.alloc (.cells #[.string p.name,.slice A1 p.vars.length k1,.slice A2 p.rules.length k2] 25)).alloc (.cells #[.slice A3 g.ids.length k3,.slice A4 g.ports.length k4] 29));have HMR:=aA1 (fun w' (k:Bel w w')=>hM.keep k);clear hB hT;cases hs:aMw p g legit l with
 | false =>
  go_enter func14,ntmps14
  go_wp2_with (first
   | (go_at_call 36;refine (aC4 _ p _ g AL cL legit A ca l _ (HPV.out _ (aA0 HW)) (HGV.out _ (aA0 HW)) (HTR.out _ (aA0 HW))).mono ?_;rintro e w' ⟨rfl,hb⟩;rw [hs];replace HW:=HW.trans hb;clear hb;(try clear p0 p1 p2 g0 g1 gsz);obtain ⟨p0,p1,p2,g0,g1,gsz⟩:=aA6 HW)
   | (go_at_call 37;refine (aAk _ (HT.out _ (aA0 HW))).mono ?_;rintro e w' ⟨rfl,hb⟩;replace HW:=HW.trans hb;clear hb;(try clear p0 p1 p2 g0 g1 gsz);obtain ⟨p0,p1,p2,g0,g1,gsz⟩:=aA6 HW))
  go_ret;exact ⟨rfl,aA0 HW⟩
 | true =>
  obtain ⟨hL,hG,hl10,hle,hfew,hll⟩:=aJw hs;have HSM:=aA1 hs;have HL:=aA1 hL;have HGL:=aA1 hG;have HLE:=aA1 hle;have HFW:=aA1 hfew;obtain ⟨ce,hce⟩:∃ ce,aC9 p g kind legit l=ce:=⟨_,rfl⟩;obtain ⟨c1,c2⟩:=ce;have HCE:=aA1 hce;cases hq:aIq p g m with
  | false =>
   go_enter func14,ntmps14
   go_wp2_with (first
    | (go_at_call 36;refine (aC4 _ p _ g AL cL legit A ca l _ (HPV.out _ (aA0 HW)) (HGV.out _ (aA0 HW)) (HTR.out _ (aA0 HW))).mono ?_;rintro e w' ⟨rfl,hb⟩;rw [hs];replace HW:=HW.trans hb;clear hb;(try clear p0 p1 p2 g0 g1 gsz);obtain ⟨p0,p1,p2,g0,g1,gsz⟩:=aA6 HW)
    | (go_at_call 49;refine (aBi _ p _ g B cb m _ (HPV.out _ (aA0 HW)) (HGV.out _ (aA0 HW)) (HMR.out _ (aA0 HW))).mono ?_;rintro e w' ⟨rfl,hb⟩;rw [hq];replace HW:=HW.trans hb;clear hb;(try clear p0 p1 p2 g0 g1 gsz);obtain ⟨p0,p1,p2,g0,g1,gsz⟩:=aA6 HW)
    | (go_at_call 37;refine (aAk _ (HT.out _ (aA0 HW))).mono ?_;rintro e w' ⟨rfl,hb⟩;replace HW:=HW.trans hb;clear hb;(try clear p0 p1 p2 g0 g1 gsz);obtain ⟨p0,p1,p2,g0,g1,gsz⟩:=aA6 HW))
   go_ret;exact ⟨rfl,aA0 HW⟩
  | true =>
   obtain ⟨_,_,_,hm10,hme⟩:=aH9 hq;have HQM:=aA1 hq;have HME:=aA1 hme;have hw:IntKind.i64.wrap ((l.length:Int)+(m.length:Int))=(l.length:Int)+(m.length:Int):=IntWalk.i64_in _ (by omega)
   by_cases h6:l.length+m.length<=6
   .have d6:decide ((6:Int)<(l.length:Int)+(m.length:Int))=false:=decide_eq_false (by omega)
    cases hv:aD6 p m with
    | false =>
     have HVM:=aA1 hv;clear hs hL hG hle hfew hce hq hme hv h6 hTm hM;go_enter func14,ntmps14
     go_wp2_with (first
      | (go_at_call 36;refine (aC4 _ p _ g AL cL legit A ca l _ (HPV.out _ (aA0 HW)) (HGV.out _ (aA0 HW)) (HTR.out _ (aA0 HW))).mono ?_;rintro e w' ⟨rfl,hb⟩;rw [HSM.out];replace HW:=HW.trans hb;clear hb;(try clear p0 p1 p2 g0 g1 gsz);obtain ⟨p0,p1,p2,g0,g1,gsz⟩:=aA6 HW)
      | (go_at_call 49;refine (aBi _ p _ g B cb m _ (HPV.out _ (aA0 HW)) (HGV.out _ (aA0 HW)) (HMR.out _ (aA0 HW))).mono ?_;rintro e w' ⟨rfl,hb⟩;rw [HQM.out];replace HW:=HW.trans hb;clear hb;(try clear p0 p1 p2 g0 g1 gsz);obtain ⟨p0,p1,p2,g0,g1,gsz⟩:=aA6 HW)
      | (go_at_call 50;refine (aBa _ p B cb m _ (HPV.out _ (aA0 HW)) (HMR.out _ (aA0 HW)) HL.out (by omega) (fun e he=>by have:=HME.out e he;omega)).mono ?_;rintro e w' ⟨rfl,hb⟩;rw [HVM.out];replace HW:=HW.trans hb;clear hb;(try clear p0 p1 p2 g0 g1 gsz);obtain ⟨p0,p1,p2,g0,g1,gsz⟩:=aA6 HW)
      | (go_at_call 37;refine (aAk _ (HT.out _ (aA0 HW))).mono ?_;rintro e w' ⟨rfl,hb⟩;replace HW:=HW.trans hb;clear hb;(try clear p0 p1 p2 g0 g1 gsz);obtain ⟨p0,p1,p2,g0,g1,gsz⟩:=aA6 HW))
     go_ret;exact ⟨rfl,aA0 HW⟩
    | true =>
     have HVM:=aA1 hv;have HGW:=aA1 (fun (h:c2=0)=>aZs (p:=p) (g:=g) (kind:=kind) (legit:=legit) (l:=l) (m:=m) (by rw [hce];exact h) hv h6)
     obtain ⟨be,hbe⟩:∃ be,aC9 p g kind legit (l++m)=be:=⟨_,rfl⟩;obtain ⟨d1,d2⟩:=be;rw [hbe] at HGW;have HBE:=aA1 hbe;have HH6:=aA1 h6;obtain ⟨vs,hc1,ho1,hr1⟩:=hTm.vals rfl;obtain ⟨us,hc2,ho2,hr2⟩:=hM.vals rfl;have HC1:=aA1 hc1;have HC2:=aA1 hc2;have HO1:=aA1 ho1;have HO2:=aA1 ho2;have HRO:=aA1 (hr1.append hr2)
     have HEL:Hid (∀ e∈l++m,e.length<=250):=fun e he=>by
      rcases List.mem_append.1 he with h | h
      .exact hle e h
      .exact hme e h
     have HLN:Hid ((l++m).length=l.length+m.length):=List.length_append;obtain ⟨i0,hi0,hz0,hz1,hz2⟩:=info_parts bE5;have e2:(c2==c2)=true:=by simp
     clear hs hL hG hle hfew hce hq hme hv hbe hTm hM hc1 hc2 ho1 ho2 hr1 hr2;have EXT:True:=trivial
     by_cases h0:c2=0
     .obtain ⟨rfl,rfl⟩:=Prod.mk.inj (HGW.out h0)
      subst h0;clear h6;go_enter func14,ntmps14
      go_upto_region 5 with (first
       | (go_at_call 36;refine (aC4 _ p _ g AL cL legit A ca l _ (HPV.out _ (aA0 HW)) (HGV.out _ (aA0 HW)) (HTR.out _ (aA0 HW))).mono ?_;rintro e w' ⟨rfl,hb⟩;rw [HSM.out];replace HW:=HW.trans hb;clear hb;(try clear p0 p1 p2 g0 g1 gsz);obtain ⟨p0,p1,p2,g0,g1,gsz⟩:=aA6 HW)
       | (go_at_call 49;refine (aBi _ p _ g B cb m _ (HPV.out _ (aA0 HW)) (HGV.out _ (aA0 HW)) (HMR.out _ (aA0 HW))).mono ?_;rintro e w' ⟨rfl,hb⟩;rw [HQM.out];replace HW:=HW.trans hb;clear hb;(try clear p0 p1 p2 g0 g1 gsz);obtain ⟨p0,p1,p2,g0,g1,gsz⟩:=aA6 HW)
       | (go_at_call 50;refine (aBa _ p B cb m _ (HPV.out _ (aA0 HW)) (HMR.out _ (aA0 HW)) HL.out (by omega) (fun e he=>by have:=HME.out e he;omega)).mono ?_;rintro e w' ⟨rfl,hb⟩;rw [HVM.out];replace HW:=HW.trans hb;clear hb;(try clear p0 p1 p2 g0 g1 gsz);obtain ⟨p0,p1,p2,g0,g1,gsz⟩:=aA6 HW)
       | (go_at_call 38;refine (aBo _ p _ g kind AL cL legit A ca l _ (HPV.out _ (aA0 HW)) (HGV.out _ (aA0 HW)) (HT.out _ (aA0 HW)) (HBR.out _ (aA0 HW)) (HTR.out _ (aA0 HW)) HL.out HGL.out (by omega) hl10 HLE.out HFW.out).mono ?_;rintro e w' ⟨rfl,hb⟩;rw [HCE.out];replace HW:=HW.trans hb;clear hb;(try clear p0 p1 p2 g0 g1 gsz);obtain ⟨p0,p1,p2,g0,g1,gsz⟩:=aA6 HW)
       | (at_builtin;(refine aDr _ rfl (.const (.slice none 0 0)) (.tmp 57) 59 rfl (w.heap.size+1+1) 64 i0 (.slice none 0 0) 1 24 underlying59 hi0 hz0 hz1 hz2 rfl (by decide) none 0 0 [] rfl (World.ownsRow_nil _ _ _ _) A l.length ca vs rfl (HC1.out _ (aA0 HW)) HO1.out (by unfold maxLen;omega) (by omega) (by have:=HW.size;simp at this;omega) ?_;intro R3 c3 w3 hown3 hgr3 _;rw [List.nil_append,Nat.zero_add] at hown3;have hb3:=(Bel.refl _).grown hgr3 (fun k hk=>by cases hk);have HOW3:=aA1 hown3;replace HW:=HW.trans hb3;clear hown3 hgr3 hb3 p0 p1 p2 g0 g1 gsz;obtain ⟨p0,p1,p2,g0,g1,gsz⟩:=aA6 HW))
       | (at_builtin;(refine aDr _ rfl (.tmp 58) (.tmp 59) 59 rfl (w.heap.size+1+1) 64 i0 (.slice none 0 0) 1 24 underlying59 hi0 hz0 hz1 hz2 rfl (by decide) R3 l.length c3 vs rfl HOW3.out B m.length cb us rfl (HC2.out _ (aA0 HW)) HO2.out (by unfold maxLen;omega) (by omega) (by have:=HW.size;simp at this;omega) ?_;intro R4 c4 w4 hown4 hgr4 _;have HOW4:=aA1 hown4;replace HW:=HW.pushB HOW3.out (by simp) hgr4;clear hown4 hgr4 p0 p1 p2 g0 g1 gsz;obtain ⟨p0,p1,p2,g0,g1,gsz⟩:=aA6 HW;have HB4:=Bel.refl w4;have HBR4:=aA1 (HRO.out.read HOW4.out (aA0 HW) HLN.out))))
      go_wp2_with (first
       | (go_at_call 38;have hps:=aBo _ p _ g kind AL cL legit R4 c4 (l++m) w4 (HPV.out _ (aA0 HW)) (HGV.out _ (aA0 HW)) (HT.out _ (aA0 HW)) (HBR.out _ (aA0 HW)) (by rw [HLN.out];exact HBR4.out) HL.out HGL.out (by omega) (by rw [HLN.out];have:=HH6.out;omega) HEL.out HFW.out;rw [HLN.out,HBE.out] at hps;refine hps.mono ?_;rintro e w5 ⟨rfl,hb⟩;clear hps;replace HW:=HW.trans hb;clear hb;(try clear p0 p1 p2 g0 g1 gsz);obtain ⟨p0,p1,p2,g0,g1,gsz⟩:=aA6 HW)
       | (go_at_call 39;refine (aDq _ p _ g kind AL cL legit A ca l _ (HPV.out _ (aA0 HW)) (HGV.out _ (aA0 HW)) (HBR.out _ (aA0 HW)) (HTR.out _ (aA0 HW)) HL.out HGL.out hl10 HLE.out HFW.out).mono ?_;rintro e w' ⟨rfl,hb⟩;rw [HCE.out];replace HW:=HW.trans hb;clear hb;(try clear p0 p1 p2 g0 g1 gsz);obtain ⟨p0,p1,p2,g0,g1,gsz⟩:=aA6 HW)
       | (go_at_call 37;refine (aAk _ (HT.out _ (aA0 HW))).mono ?_;rintro e w' ⟨rfl,hb⟩;replace HW:=HW.trans hb;clear hb;(try clear p0 p1 p2 g0 g1 gsz);obtain ⟨p0,p1,p2,g0,g1,gsz⟩:=aA6 HW))
      go_ret;exact ⟨by simp,aA0 HW⟩
     .have dn:(c2 != 0)=true:=by simpa using h0
      clear h6;go_enter func14,ntmps14
      go_upto_region 5 with (first
       | (go_at_call 36;refine (aC4 _ p _ g AL cL legit A ca l _ (HPV.out _ (aA0 HW)) (HGV.out _ (aA0 HW)) (HTR.out _ (aA0 HW))).mono ?_;rintro e w' ⟨rfl,hb⟩;rw [HSM.out];replace HW:=HW.trans hb;clear hb;(try clear p0 p1 p2 g0 g1 gsz);obtain ⟨p0,p1,p2,g0,g1,gsz⟩:=aA6 HW)
       | (go_at_call 49;refine (aBi _ p _ g B cb m _ (HPV.out _ (aA0 HW)) (HGV.out _ (aA0 HW)) (HMR.out _ (aA0 HW))).mono ?_;rintro e w' ⟨rfl,hb⟩;rw [HQM.out];replace HW:=HW.trans hb;clear hb;(try clear p0 p1 p2 g0 g1 gsz);obtain ⟨p0,p1,p2,g0,g1,gsz⟩:=aA6 HW)
       | (go_at_call 50;refine (aBa _ p B cb m _ (HPV.out _ (aA0 HW)) (HMR.out _ (aA0 HW)) HL.out (by omega) (fun e he=>by have:=HME.out e he;omega)).mono ?_;rintro e w' ⟨rfl,hb⟩;rw [HVM.out];replace HW:=HW.trans hb;clear hb;(try clear p0 p1 p2 g0 g1 gsz);obtain ⟨p0,p1,p2,g0,g1,gsz⟩:=aA6 HW)
       | (go_at_call 38;refine (aBo _ p _ g kind AL cL legit A ca l _ (HPV.out _ (aA0 HW)) (HGV.out _ (aA0 HW)) (HT.out _ (aA0 HW)) (HBR.out _ (aA0 HW)) (HTR.out _ (aA0 HW)) HL.out HGL.out (by omega) hl10 HLE.out HFW.out).mono ?_;rintro e w' ⟨rfl,hb⟩;rw [HCE.out];replace HW:=HW.trans hb;clear hb;(try clear p0 p1 p2 g0 g1 gsz);obtain ⟨p0,p1,p2,g0,g1,gsz⟩:=aA6 HW)
       | (at_builtin;(refine aDr _ rfl (.const (.slice none 0 0)) (.tmp 57) 59 rfl (w.heap.size+1+1) 64 i0 (.slice none 0 0) 1 24 underlying59 hi0 hz0 hz1 hz2 rfl (by decide) none 0 0 [] rfl (World.ownsRow_nil _ _ _ _) A l.length ca vs rfl (HC1.out _ (aA0 HW)) HO1.out (by unfold maxLen;omega) (by omega) (by have:=HW.size;simp at this;omega) ?_;intro R3 c3 w3 hown3 hgr3 _;rw [List.nil_append,Nat.zero_add] at hown3;have hb3:=(Bel.refl _).grown hgr3 (fun k hk=>by cases hk);have HOW3:=aA1 hown3;replace HW:=HW.trans hb3;clear hown3 hgr3 hb3 p0 p1 p2 g0 g1 gsz;obtain ⟨p0,p1,p2,g0,g1,gsz⟩:=aA6 HW))
       | (at_builtin;(refine aDr _ rfl (.tmp 58) (.tmp 59) 59 rfl (w.heap.size+1+1) 64 i0 (.slice none 0 0) 1 24 underlying59 hi0 hz0 hz1 hz2 rfl (by decide) R3 l.length c3 vs rfl HOW3.out B m.length cb us rfl (HC2.out _ (aA0 HW)) HO2.out (by unfold maxLen;omega) (by omega) (by have:=HW.size;simp at this;omega) ?_;intro R4 c4 w4 hown4 hgr4 _;have HOW4:=aA1 hown4;replace HW:=HW.pushB HOW3.out (by simp) hgr4;clear hown4 hgr4 p0 p1 p2 g0 g1 gsz;obtain ⟨p0,p1,p2,g0,g1,gsz⟩:=aA6 HW;have HB4:=Bel.refl w4;have HBR4:=aA1 (HRO.out.read HOW4.out (aA0 HW) HLN.out))))
      go_wp2_with (first
       | (go_at_call 38;have hps:=aBo _ p _ g kind AL cL legit R4 c4 (l++m) w4 (HPV.out _ (aA0 HW)) (HGV.out _ (aA0 HW)) (HT.out _ (aA0 HW)) (HBR.out _ (aA0 HW)) (by rw [HLN.out];exact HBR4.out) HL.out HGL.out (by omega) (by rw [HLN.out];have:=HH6.out;omega) HEL.out HFW.out;rw [HLN.out,HBE.out] at hps;refine hps.mono ?_;rintro e w5 ⟨rfl,hb⟩;clear hps;replace HW:=HW.trans hb;clear hb;(try clear p0 p1 p2 g0 g1 gsz);obtain ⟨p0,p1,p2,g0,g1,gsz⟩:=aA6 HW)
       | (go_at_call 39;refine (aDq _ p _ g kind AL cL legit A ca l _ (HPV.out _ (aA0 HW)) (HGV.out _ (aA0 HW)) (HBR.out _ (aA0 HW)) (HTR.out _ (aA0 HW)) HL.out HGL.out hl10 HLE.out HFW.out).mono ?_;rintro e w' ⟨rfl,hb⟩;rw [HCE.out];replace HW:=HW.trans hb;clear hb;(try clear p0 p1 p2 g0 g1 gsz);obtain ⟨p0,p1,p2,g0,g1,gsz⟩:=aA6 HW)
       | (go_at_call 37;refine (aAk _ (HT.out _ (aA0 HW))).mono ?_;rintro e w' ⟨rfl,hb⟩;replace HW:=HW.trans hb;clear hb;(try clear p0 p1 p2 g0 g1 gsz);obtain ⟨p0,p1,p2,g0,g1,gsz⟩:=aA6 HW))
      go_ret;exact ⟨by simp,aA0 HW⟩
   .have d6:decide ((6:Int)<(l.length:Int)+(m.length:Int))=true:=decide_eq_true (by omega)
    clear hs hL hG hle hfew hce hq hme h6 hTm hM;go_enter func14,ntmps14
    go_wp2_with (first
     | (go_at_call 36;refine (aC4 _ p _ g AL cL legit A ca l _ (HPV.out _ (aA0 HW)) (HGV.out _ (aA0 HW)) (HTR.out _ (aA0 HW))).mono ?_;rintro e w' ⟨rfl,hb⟩;rw [HSM.out];replace HW:=HW.trans hb;clear hb;(try clear p0 p1 p2 g0 g1 gsz);obtain ⟨p0,p1,p2,g0,g1,gsz⟩:=aA6 HW)
     | (go_at_call 49;refine (aBi _ p _ g B cb m _ (HPV.out _ (aA0 HW)) (HGV.out _ (aA0 HW)) (HMR.out _ (aA0 HW))).mono ?_;rintro e w' ⟨rfl,hb⟩;rw [HQM.out];replace HW:=HW.trans hb;clear hb;(try clear p0 p1 p2 g0 g1 gsz);obtain ⟨p0,p1,p2,g0,g1,gsz⟩:=aA6 HW)
     | (go_at_call 37;refine (aAk _ (HT.out _ (aA0 HW))).mono ?_;rintro e w' ⟨rfl,hb⟩;replace HW:=HW.trans hb;clear hb;(try clear p0 p1 p2 g0 g1 gsz);obtain ⟨p0,p1,p2,g0,g1,gsz⟩:=aA6 HW))
    go_ret;exact ⟨rfl,aA0 HW⟩
end Go.Proofs.YtmifhmdghfbalaaGreatDoor

