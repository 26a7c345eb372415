/- Merged. -/
import Derived.Test.YtmoebklkkjbigaaGreatDoorZ13
set_option linter.unusedSimpArgs false
set_option linter.unnecessarySimpa false
set_option linter.unusedVariables false
set_option maxRecDepth 100000
set_option maxHeartbeats 4000000
open Go.Proofs.Tryz

namespace Go.Proofs.YtmoebklkkjbigaaGreatDoor
open Go.RowKit
theorem bK8 (p:Prg) (g:Graph) (c:aA3) (v:Nat) (hs:SOK p g c v) (x:Ex):bGt p g c v x:=by
 induction x with
 | leaf t =>
  intro b port K A ce es k w hW hat harg hlen hbo hpo
  have hlt:=At.lt hat;obtain ⟨hh,har⟩:=At.leaf hat;have HWK:=aA0 (fun w' (k:Bel w w')=>hW.keep k);obtain ⟨B,AC,kc,hK,_,_,hT⟩:=hW;have y3:=hK.cell 3 (v := .slice A es.length ce) rfl;have yl:=hK.lt;obtain ⟨b1,o1,rfl,hb1,c1,c2⟩:=hT.at_ k hlt;have hhe:es[k]=t:=by rw [List.getElem?_eq_getElem hlt] at hh;simpa using hh
  rw [hhe] at c1 c2;have HARG:=aA0 (show aM3 t p.vars.length=true by rw [<- hhe];exact harg _ (List.getElem_mem hlt))
  have hr:=(aC5 t.op).1 har;have HAR:=aA0 har;have HBO:=aA0 (show aG6 t.op=true->b=true from hbo)
  have HPO:=aA0 hpo;have HS:=aA0 hs;have HB:=(Bel.refl w).alloc (.cells #[.int .i64 t.op,.int .i64 t.arg] 235);have hdk:decide (k<es.length)=true:=by simpa using hlt
  have hd17:decide (t.op<=17)=true:=by simpa using hr.2
  clear hh hhe harg hT har hat hbo hpo hK hs hr;go_enter func154,ntmps154
  go_wp2_with (go_at_call 176;refine (bI3 K p g c v _ ce es port t b _ (HWK.out _ HB) HS.out HAR.out HARG.out HBO.out HPO.out).mono ?_;rintro e w' ⟨rfl,hbb⟩;replace HB:=HB.trans hbb;clear hbb)
  go_ret2
  exact ⟨rfl,HB⟩
 | un t a ih =>
  intro b port K A ce es k w hW hat harg hlen hbo hpo
  have hlt:=At.lt hat;have hend:=At.endF hat;have hbd:=At.bound hat;obtain ⟨hh,har,ha⟩:=At.un hat;have HWK:=aA0 (fun w' (k:Bel w w')=>hW.keep k);obtain ⟨B,AC,kc,hK,_,_,hT⟩:=hW;have y3:=hK.cell 3 (v := .slice A es.length ce) rfl;have yl:=hK.lt;obtain ⟨b1,o1,rfl,hb1,c1,c2⟩:=hT.at_ k hlt;have hhe:es[k]=t:=by rw [List.getElem?_eq_getElem hlt] at hh;simpa using hh
  rw [hhe] at c1 c2;have HARG:=aA0 harg;have HS:=aA0 hs;have HPO:=aA0 hpo;have HBX:=Bel.refl (w.alloc (.cells #[.int .i64 t.op,.int .i64 t.arg] 235));have hdk:decide (k<es.length)=true:=by simpa using hlt
  have hr:=(aC5 t.op).2.1 har;have hd17:decide (t.op<=17)=false:=by simp;omega
  have HIH:=aA0 ih;have HATA:=aA0 ha;have HNA:=aA0 (fun (b':Bool) (q:Int) (h1:aC2 b' a) (h2:aN3 g v b' q)=>aPn hs ha.1 (fun t ht=>harg t (aN9 ha t ht)) h1 h2);have HLN:Hid (k+(Ex.un t a).len=k+1+a.len):=by show k+(Ex.un t a).len=_;simp [Ex.len,Ex.terms];omega
  cases hag:aAo t.op with
  | true =>
   have HBO:Hid (aC2 true a):=by
    have hb':aC2 (b||aAo t.op) a:=hbo;rw [hag,Bool.or_true] at hb';exact hb'
   have HE:Hid (aBd g c v port (.un t a)=aIv t.op ((List.range (g.ports.getD v []).length).map fun (q:Nat)=>aBd g c v (q:Int) a)):=by
    show aBd g c v port (.un t a)=_
    simp only [aBd,hag,if_true]
   obtain ⟨hop1,hop2⟩:20<=t.op/\t.op<=29:=by unfold aAo at hag;exact of_decide_eq_true hag
   have hd19:decide (t.op<=19)=false:=by simp;omega
   have hd29:decide (t.op<=29)=true:=by simpa using hop2
   have HEND:Hid (endF es (k:Int)=((k+1+a.len:Nat):Int)):=by show endF es (k:Int)=_;rw [hend,HLN.out]
   clear hh hhe harg hT har hat hbo hpo hK hs hr ih ha hag hend;go_enter func154,ntmps154
   go_wp2_with (go_at_call 178;refine (bKr p g c v a HIH.out HS.out t.op K _ ce es k _ (HWK.out _ (aA6 HBX)) HATA.out HEND.out HARG.out hlen HBO.out hop1 hop2).mono ?_;rintro e w' ⟨rfl,hbb⟩;replace HBX:=HBX.trans hbb;clear hbb)
   go_ret2
   rw [HE.out,HLN.out];exact ⟨rfl,aA6 HBX⟩
  | false =>
   have HBO:Hid (aC2 b a):=by
    have hb':aC2 (b||aAo t.op) a:=hbo;rw [hag,Bool.or_false] at hb';exact hb'
   have HE:Hid (aBd g c v port (.un t a)=aIt t.op (aBd g c v port a)):=by
    show aBd g c v port (.un t a)=_
    simp only [aBd,hag];rfl
   have hd19:decide (t.op<=19)=true:=by unfold aAo at hag;simp at hag ⊢;omega
   clear hh hhe harg hT har hat hbo hpo hK hs hr ih ha hag hend;go_enter func154,ntmps154
   go_wp2_with (first
    | (go_at_call 154;refine (HIH.out b port K _ ce es (k+1) _ (HWK.out _ (aA6 HBX)) HATA.out HARG.out hlen HBO.out HPO.out).mono ?_;rintro e w' ⟨rfl,hbb⟩;replace HBX:=HBX.trans hbb;clear hbb;have q0:=aAq HBX 0 (v := .int .i64 t.op) rfl;have q1:=aDd HBX)
    | (go_at_call 177;refine (bK7 _ _ _ (HNA.out b port HBO.out HPO.out)).mono ?_;rintro e w' ⟨rfl,rfl⟩))
   go_ret2
   rw [HE.out,HLN.out];exact ⟨rfl,aA6 HBX⟩
 | bin t x y ihx ihy =>
  intro b port K A ce es k w hW hat harg hlen hbo hpo
  have hlt:=At.lt hat;have hend:=At.endF hat;have hbd:=At.bound hat;obtain ⟨hh,har,hx,hy⟩:=At.bin hat;have HWK:=aA0 (fun w' (k:Bel w w')=>hW.keep k);obtain ⟨B,AC,kc,hK,_,_,hT⟩:=hW;have y3:=hK.cell 3 (v := .slice A es.length ce) rfl;have yl:=hK.lt;obtain ⟨b1,o1,rfl,hb1,c1,c2⟩:=hT.at_ k hlt;have hhe:es[k]=t:=by rw [List.getElem?_eq_getElem hlt] at hh;simpa using hh
  rw [hhe] at c1 c2;have HARG:=aA0 harg;have HS:=aA0 hs;have HPO:=aA0 hpo;have HBX:=Bel.refl (w.alloc (.cells #[.int .i64 t.op,.int .i64 t.arg] 235));have hdk:decide (k<es.length)=true:=by simpa using hlt
  have hr:=(aC5 t.op).2.2.1 har;have hd17:decide (t.op<=17)=false:=by simp;omega
  have hd19:decide (t.op<=19)=false:=by simp;omega
  have hd29:decide (t.op<=29)=false:=by simp;omega
  have hd42:decide (t.op<=42)=true:=by simp;omega
  obtain ⟨hop1,hop2⟩:30<=t.op/\t.op<=42:=by omega
  have HX:=aA0 ihx;have HY:=aA0 ihy;have HAX:=aA0 hx;have HAY:=aA0 hy;have HBO:=aA0 (show aC2 b x/\aC2 b y from hbo)
  have HNX:=aA0 (aPn hs hx.1 (fun t ht=>harg t (aN9 hx t ht)) HBO.out.1 hpo);have HNY:=aA0 (aPn hs hy.1 (fun t ht=>harg t (aN9 hy t ht)) HBO.out.2 hpo);have HLN:Hid (k+(Ex.bin t x y).len=k+1+x.len+y.len):=by show k+(Ex.bin t x y).len=_;simp [Ex.len,Ex.terms];omega
  clear hh hhe harg hT har hat hbo hpo hK hs hr ihx ihy hx hy hend;go_enter func154,ntmps154
  go_wp2_with (first
   | (go_at_call 154;refine (HX.out b port K _ ce es (k+1) _ (HWK.out _ (aA6 HBX)) HAX.out HARG.out hlen HBO.out.1 HPO.out).mono ?_;rintro e w' ⟨rfl,hbb⟩;replace HBX:=HBX.trans hbb;clear hbb;clear HX)
   | (go_at_call 154;refine (HY.out b port K _ ce es (k+1+x.len) _ (HWK.out _ (aA6 HBX)) HAY.out HARG.out hlen HBO.out.2 HPO.out).mono ?_;rintro e w' ⟨rfl,hbb⟩;replace HBX:=HBX.trans hbb;clear hbb;have q0:=aAq HBX 0 (v := .int .i64 t.op) rfl;have q1:=aDd HBX)
   | (go_at_call 179;refine (bE5 _ _ _ _ hop1 hop2 HNX.out HNY.out).mono ?_;rintro e w' ⟨rfl,rfl⟩))
  go_ret2
  rw [HLN.out];exact ⟨rfl,aA6 HBX⟩
 | tri t x y z ihx ihy ihz =>
  intro b port K A ce es k w hW hat harg hlen hbo hpo
  have hlt:=At.lt hat;have hend:=At.endF hat;have hbd:=At.bound hat;obtain ⟨hh,har,hx,hy,hz⟩:=At.tri hat;have HWK:=aA0 (fun w' (k:Bel w w')=>hW.keep k);obtain ⟨B,AC,kc,hK,_,_,hT⟩:=hW;have y3:=hK.cell 3 (v := .slice A es.length ce) rfl;have yl:=hK.lt;obtain ⟨b1,o1,rfl,hb1,c1,c2⟩:=hT.at_ k hlt;have hhe:es[k]=t:=by rw [List.getElem?_eq_getElem hlt] at hh;simpa using hh
  rw [hhe] at c1 c2;have HARG:=aA0 harg;have HS:=aA0 hs;have HPO:=aA0 hpo;have HBX:=Bel.refl (w.alloc (.cells #[.int .i64 t.op,.int .i64 t.arg] 235));have hdk:decide (k<es.length)=true:=by simpa using hlt
  have hr:=(aC5 t.op).2.2.2 har;have hd17:decide (t.op<=17)=false:=by simp;omega
  have hd19:decide (t.op<=19)=false:=by simp;omega
  have hd29:decide (t.op<=29)=false:=by simp;omega
  have hd42:decide (t.op<=42)=false:=by simp;omega
  have HX:=aA0 ihx;have HY:=aA0 ihy;have HZ:=aA0 ihz;have HAX:=aA0 hx;have HAY:=aA0 hy;have HAZ:=aA0 hz;have HBO:=aA0 (show aC2 b x/\aC2 b y/\aC2 b z from hbo)
  have HLN:Hid (k+(Ex.tri t x y z).len=k+1+x.len+y.len+z.len):=by show k+(Ex.tri t x y z).len=_;simp [Ex.len,Ex.terms];omega
  have HEV:Hid (aBd g c v port (.tri t x y z)=if aBd g c v port x≠0 then aBd g c v port y else aBd g c v port z):=by show aBd g c v port (.tri t x y z)=_;simp only [aBd]
  clear hh hhe harg hT har hat hbo hpo hK hs hr ihx ihy ihz hx hy hz hend
  by_cases h0:aBd g c v port x=0
  .rw [if_neg (by simpa using h0)] at HEV
   have hd0:(aBd g c v port x != 0)=false:=by simpa using h0
   clear h0;go_enter func154,ntmps154
   go_wp2_with (first
    | (go_at_call 154;refine (HX.out b port K _ ce es (k+1) _ (HWK.out _ (aA6 HBX)) HAX.out HARG.out hlen HBO.out.1 HPO.out).mono ?_;rintro e w' ⟨rfl,hbb⟩;replace HBX:=HBX.trans hbb;clear hbb;clear HX)
    | (go_at_call 154;refine (HY.out b port K _ ce es (k+1+x.len) _ (HWK.out _ (aA6 HBX)) HAY.out HARG.out hlen HBO.out.2.1 HPO.out).mono ?_;rintro e w' ⟨rfl,hbb⟩;replace HBX:=HBX.trans hbb;clear hbb;clear HY)
    | (go_at_call 154;refine (HZ.out b port K _ ce es (k+1+x.len+y.len) _ (HWK.out _ (aA6 HBX)) HAZ.out HARG.out hlen HBO.out.2.2 HPO.out).mono ?_;rintro e w' ⟨rfl,hbb⟩;replace HBX:=HBX.trans hbb;clear hbb))
   go_ret2
   rw [HLN.out,HEV.out];exact ⟨rfl,aA6 HBX⟩
  .rw [if_pos h0] at HEV
   have hd0:(aBd g c v port x != 0)=true:=by simpa using h0
   clear h0;go_enter func154,ntmps154
   go_wp2_with (first
    | (go_at_call 154;refine (HX.out b port K _ ce es (k+1) _ (HWK.out _ (aA6 HBX)) HAX.out HARG.out hlen HBO.out.1 HPO.out).mono ?_;rintro e w' ⟨rfl,hbb⟩;replace HBX:=HBX.trans hbb;clear hbb;clear HX)
    | (go_at_call 154;refine (HY.out b port K _ ce es (k+1+x.len) _ (HWK.out _ (aA6 HBX)) HAY.out HARG.out hlen HBO.out.2.1 HPO.out).mono ?_;rintro e w' ⟨rfl,hbb⟩;replace HBX:=HBX.trans hbb;clear hbb;clear HY)
    | (go_at_call 154;refine (HZ.out b port K _ ce es (k+1+x.len+y.len) _ (HWK.out _ (aA6 HBX)) HAZ.out HARG.out hlen HBO.out.2.2 HPO.out).mono ?_;rintro e w' ⟨rfl,hbb⟩;replace HBX:=HBX.trans hbb;clear hbb))
   go_ret2
   rw [HLN.out,HEV.out];exact ⟨rfl,aA6 HBX⟩
end Go.Proofs.YtmoebklkkjbigaaGreatDoor

