/- Merged. -/
import Derived.Test.YtdcjnhoabbdanaaGreatDoorZ16
set_option linter.unusedSimpArgs false
set_option linter.unnecessarySimpa false
set_option linter.unusedVariables false
set_option maxRecDepth 100000
set_option maxHeartbeats 4000000
open Go.Proofs.Tryz

namespace Go.Proofs.YtdcjnhoabbdanaaGreatDoor
open Go.RowKit
theorem aFt {es:List Term} {k:Nat} {x:Ex} (h:x.At es k):∀ t∈x.terms,t∈es:=by
 obtain ⟨_,r,hr⟩:=h;intro t ht
 have:t∈es.drop k:=by rw [hr];exact List.mem_append_left _ ht
 exact List.mem_of_mem_drop this
def AtOk (p:Prg) (g:Graph) (c:aA7) (v:Nat) (x:Ex):Prop :=
 ∀ (b:Bool) (port:Int) (gv cv:Value) (A:Option Addr) (ce:Nat) (es:List Term) (k:Nat) (w:World),aAn w gv g->aAy w cv c->aB0 w A es.length es->x.At es k->(∀ t∈es,aFx t p.vars.length=true)->es.length<=1000->aB1 b x->aG6 g v b port ->
  Calls prog 118 #[gv,cv,.int .i64 v,.int .i64 port,.slice A es.length ce,.int .i64 k] w fun e w'=>e = .returned (.int .i64 (aAs g c v port x))/\Bel w w'
theorem aWi (p:Prg) (g:Graph) (c:aA7) (v:Nat) (hs:SOK p g c v) (x:Ex):AtOk p g c v x:=by
 induction x with
 | leaf t =>
  intro b port gv cv A ce es k w hgv hcv hT hat harg hlen hbo hpo
  have hlt:=At.lt hat;obtain ⟨hh,har⟩:=At.leaf hat;obtain ⟨b1,o1,rfl,hb1,c1,c2⟩:=hT.at_ k hlt;have hhe:es[k]=t:=by rw [List.getElem?_eq_getElem hlt] at hh;simpa using hh
  rw [hhe] at c1 c2;have HARG:=aA0 (show aFx t p.vars.length=true by rw [<- hhe];exact harg _ (List.getElem_mem hlt))
  have HGV:=aA0 (fun w' (k:Bel w w')=>hgv.keep k);have HCV:=aA0 (fun w' (k:Bel w w')=>hcv.keep k);obtain ⟨A2,k2,A3,k3,rfl,_,_,_,_,_,_⟩:=hgv;obtain ⟨A4,k4,rfl,_,_,_⟩:=hcv;have HAR:=aA0 har;have HBO:=aA0 (show aCw t.op=true->b=true from hbo)
  have HPO:=aA0 hpo;have HS:=aA0 hs;have HB:=Bel.refl (w.alloc (.cells #[.slice A2 g.ids.length k2,.slice A3 g.ports.length k3] 29));have hcell:=aA0 (fun w' (kk:Bel (w.alloc (.cells #[.slice A2 g.ids.length k2,.slice A3 g.ports.length k3] 29)) w')=>And.intro (aA9 kk 0 (v := .slice A2 g.ids.length k2) rfl) (And.intro (aA9 kk 1 (v := .slice A3 g.ports.length k3) rfl) (And.intro (((aA4 kk).cell hb1).trans c1) (And.intro (((aA4 kk).cell hb1).trans c2) (aAx kk)))));have hdk:decide (k<es.length)=true:=by simpa using hlt
  have hk0:(0:Int)<=(k:Int):=by omega
  have hk1:(k:Int)<(es.length:Int):=by omega
  clear hh hhe harg hT har hat hbo hpo;go_enter func118,ntmps118
  go_wp2_with (go_at_call 132;refine (aAr _ _).mono ?_;rintro e w' ⟨rfl,rfl⟩;rw [HAR.out])
  replace HB:=HB.drew
  go_region_held3 (fun w'=>w'.cell? ⟨w.heap.size,0,none⟩=some (.slice A2 g.ids.length k2)/\w'.cell? ⟨w.heap.size,1,none⟩=some (.slice A3 g.ports.length k3)/\w'.cell? ⟨b1,o1+k*2,none⟩=some (.int .i64 t.op)/\w'.cell? ⟨b1,o1+k*2+1,none⟩=some (.int .i64 t.arg)/\w.heap.size<w'.heap.size) (exact hcell.out _ HB) (first | (go_simp;go_at_call 133;refine (aRs _ p g _ c v port t b _ (HGV.out _ (aA4 HB)) (HCV.out _ (aA4 HB)) HS.out HAR.out HARG.out HBO.out HPO.out).mono ?_;rintro e w' ⟨rfl,hbb⟩;replace HB:=HB.trans hbb;clear hbb))
  go_wp2_with fail
  go_ret;exact ⟨rfl,aA4 HB⟩
 | un t a ih =>
  intro b port gv cv A ce es k w hgv hcv hT hat harg hlen hbo hpo
  have hlt:=At.lt hat;obtain ⟨hh,har,ha⟩:=At.un hat;have hbd:=At.bound ha;obtain ⟨b1,o1,rfl,hb1,c1,c2⟩:=hT.at_ k hlt;have hhe:es[k]=t:=by rw [List.getElem?_eq_getElem hlt] at hh;simpa using hh
  rw [hhe] at c1 c2;have HGV:=aA0 (fun w' (k:Bel w w')=>hgv.keep k);have HCV:=aA0 (fun w' (k:Bel w w')=>hcv.keep k);have HT:=aA0 (fun w' (k:Bel w w')=>aB0.keep hT k);obtain ⟨A2,k2,A3,k3,rfl,_,_,_,hP,_,_⟩:=hgv;obtain ⟨A4,k4,rfl,_,_,_⟩:=hcv;have HP:=aA0 (fun w' (k:Bel w w')=>aF3.keep hP k);have HAR:=aA0 har;have HARG:=aA0 harg;have HIH:=aA0 ih;have HATA:=aA0 ha;have hv:=hs.node;have hop:=(aB6 t.op).2.1 har;have HB:=Bel.refl (w.alloc (.cells #[.slice A2 g.ids.length k2,.slice A3 g.ports.length k3] 29));have HNA:=aA0 (fun (b':Bool) (q:Int) (h1:aB1 b' a) (h2:aG6 g v b' q)=>aH1 hs ha.1 (fun t ht=>harg t (aFt ha t ht)) h1 h2);cases hag:aAc t.op with
  | true =>
   have HBO:Hid (aB1 true a):=by
    have hb':aB1 (b||aAc t.op) a:=hbo;rw [hag,Bool.or_true] at hb';exact hb'
   have HE:Hid (aAs g c v port (.un t a)=aIt t.op ((List.range g.ports[v].length).map fun (q:Nat)=>aAs g c v (q:Int) a)):=by
    show aAs g c v port (.un t a)=_
    simp only [aAs,hag,if_true]
    rw [aAa hv]
   have hrl:g.ports[v].length<=24:=by have:=aCh hv (hs.gok.links v hv);have:=hs.gok.le;omega
   obtain ⟨hop1,hop2⟩:20<=t.op/\t.op<=29:=by unfold aAc at hag;exact of_decide_eq_true hag
   have HAG:=aA0 hag;obtain ⟨i0,hi0,hz0,hz1,hz2⟩:=info_parts aH4;have HPK:Hid (∀ q:Nat,q<g.ports[v].length->aG6 g v true (q:Int)):=fun q hq _=>⟨q,rfl,by rw [aAa hv];exact hq⟩
   clear hh hhe harg hT har hat hbo hpo hP ih ha hag;go_enter func118,ntmps118
   go_wp2_with (first
    | (go_at_call 132;refine (aAr _ _).mono ?_;rintro e w' ⟨rfl,rfl⟩;rw [HAR.out])
    | (go_at_call 134;refine (aDn _ _).mono ?_;rintro e w' ⟨rfl,rfl⟩;rw [HAG.out]))
   go_loopg [14,15] g.ports[v].length (fun m s z wr=>∃ (j:Nat) (R:Option Addr) (rc:Nat),j<=g.ports[v].length/\m=g.ports[v].length-j/\z = .int .i64 j/\s = .slice R j rc/\Hid (wr.ownsRow (w.heap.size+1) 3 1 (.slice R j rc) j (((List.range j).map fun (q:Nat)=>aAs g c v (q:Int) a).map (Value.int .i64)))/\Bel (w.alloc (.cells #[.slice A2 g.ids.length k2,.slice A3 g.ports.length k3] 29)) wr)
   case atStart=>exact ⟨0,none,0,by omega,rfl,rfl,rfl,World.ownsRow_nil _ _ _ _,HB⟩
   case round =>
    clear HB;obtain ⟨j,R,rc,hj,rfl,rfl,rfl,HO,HB⟩:=hrel;have q0:=aA9 HB 0 rfl;have q1:=aA9 HB 1 rfl;have q2:=aAx HB;obtain ⟨b2,o2,R2,rc2,rfl,hb2,hrow,_,_,_⟩:=(HP.out _ (aA4 HB)).at_ v hv;have hdv:decide (v<g.ports.length)=true:=by simpa using hv
    by_cases hlt2:j<g.ports[v].length
    .have hd0:decide (j<g.ports[v].length)=true:=by simpa using hlt2
     have HST:Hid (((List.range (j+1)).map fun (q:Nat)=>aAs g c v (q:Int) a).map (Value.int .i64)=((List.range j).map fun (q:Nat)=>aAs g c v (q:Int) a).map (Value.int .i64)++[.int .i64 (aAs g c v (j:Int) a)]):=by
      show ((List.range (j+1)).map fun (q:Nat)=>aAs g c v (q:Int) a).map (Value.int .i64)=_
      rw [List.range_succ,List.map_append,List.map_append];rfl
     go_wp2_with fail
     refine (HIH.out true (j:Int) _ _ _ _ es (k+1) _ (HGV.out _ (aA4 HB)) (HCV.out _ (aA4 HB)) (HT.out _ (aA4 HB)) HATA.out HARG.out hlen HBO.out (HPK.out j hlt2)).mono ?_
     rintro e w4 ⟨rfl,hbb⟩;replace HB:=HB.trans hbb;replace HO:=aA0 (hbb.owns HO.out);clear hbb q0 q1 q2 hb2 hrow;have hsz:=aAx HB
     go_wp2_with (at_builtin;refine aDr _ rfl (.tmp 52) (.tmp 61) 26 rfl (w.heap.size+1) 3 i0 (.int .i64 0) 1 8 underlying26 hi0 hz0 hz1 hz2 rfl (by decide) R j rc _ (by simp [Act.eval]) (HO.out.alloc _) w4.heap.size #[.int .i64 (aAs g c v (j:Int) a)] 3 (0,0) (by simp [Act.eval]) (aEn _ _) rfl (aNc _ _) (by unfold maxLen;omega) (by omega) (by simp;omega) ?_;intro R2 rc2 w5 hown hgr hat;have HB2:=(HB.alloc _).pushB (HO.out.alloc _) (by simp) hgr;have HO2:=aA0 hown;clear hown hgr hat)
     go_roundg (g.ports[v].length-(j+1))
     case rel =>
      refine ⟨j+1,R2,rc2,by omega,rfl,by go_num,rfl,?_,HB2⟩
      show World.ownsRow _ _ _ _ _ _ _
      rw [HST.out];exact HO2.out
     case measure=>omega
    .obtain rfl:j=g.ports[v].length:=by omega
     have hd0:decide (g.ports[v].length<g.ports[v].length)=false:=by simp
     have HI:=aA0 (aKb HO.out)
     have HNN:Hid (∀ y∈(List.range g.ports[v].length).map fun (q:Nat)=>aAs g c v (q:Int) a,Num y):=by
      intro y hy
      obtain ⟨q,hq,rfl⟩:=List.mem_map.1 hy;exact HNA.out true q HBO.out (HPK.out q (List.mem_range.1 hq))
     go_wp2_with (go_at_call 135;refine (aTl _ _ _ _ t.op _ HI.out (by omega) hop1 hop2 HNN.out).mono ?_;rintro e w' ⟨rfl,rfl⟩)
     go_ret;exact ⟨aA5 HE.out.symm,aA4 HB⟩
  | false =>
   have HBO:Hid (aB1 b a):=by
    have hb':aB1 (b||aAc t.op) a:=hbo;rw [hag,Bool.or_false] at hb';exact hb'
   have HE:Hid (aAs g c v port (.un t a)=aHm t.op (aAs g c v port a)):=by
    show aAs g c v port (.un t a)=_
    simp only [aAs,hag];rfl
   have HUR:Hid ((aGc t.op (aAs g c v port a)).1=aHm t.op (aAs g c v port a)):=by
    show (aGc t.op (aAs g c v port a)).1=_
    unfold aGc;have hnu:=aNa (HNA.out b port HBO.out hpo);unfold aAc at hag;have:=of_decide_eq_false hag;rw [if_neg (by rw [hnu];simp;omega)]
   have HAG:=aA0 hag;have HPO:=aA0 hpo;clear hh hhe harg hT har hat hbo hpo hP ih ha hag;go_enter func118,ntmps118
   go_wp2_with (first
    | (go_at_call 132;refine (aAr _ _).mono ?_;rintro e w' ⟨rfl,rfl⟩;rw [HAR.out])
    | (go_at_call 134;refine (aDn _ _).mono ?_;rintro e w' ⟨rfl,rfl⟩;rw [HAG.out])
    | (go_at_call 118;refine (HIH.out b port _ _ _ _ es (k+1) _ (HGV.out _ (aA4 HB)) (HCV.out _ (aA4 HB)) (HT.out _ (aA4 HB)) HATA.out HARG.out hlen HBO.out HPO.out).mono ?_;rintro e w4 ⟨rfl,hbb⟩;replace HB:=HB.trans hbb;clear hbb)
    | (go_at_call 136;refine (aRx _ _ _).mono ?_;rintro e w' ⟨rfl,rfl⟩;rw [HUR.out]))
   go_ret;exact ⟨aA5 HE.out.symm,aA4 HB⟩
 | bin t a d iha ihd =>
  intro b port gv cv A ce es k w hgv hcv hT hat harg hlen hbo hpo
  have hlt:=At.lt hat;obtain ⟨hh,har,ha,hd1⟩:=At.bin hat;have hbd:=At.bound ha;have hbd2:=At.bound hd1;have hopn:=At.operand1 hat hh (by omega) ha
  obtain ⟨b1,o1,rfl,hb1,c1,c2⟩:=hT.at_ k hlt;have hhe:es[k]=t:=by rw [List.getElem?_eq_getElem hlt] at hh;simpa using hh
  rw [hhe] at c1 c2;have HGV:=aA0 (fun w' (k:Bel w w')=>hgv.keep k);have HCV:=aA0 (fun w' (k:Bel w w')=>hcv.keep k);have HT:=aA0 (fun w' (k:Bel w w')=>aB0.keep hT k);obtain ⟨A2,k2,A3,k3,rfl,_,_,_,_,_,_⟩:=hgv;obtain ⟨A4,k4,rfl,_,_,_⟩:=hcv;have HAR:=aA0 har;have HARG:=aA0 harg;have HPO:=aA0 hpo;have HI1:=aA0 iha;have HI2:=aA0 ihd;have HA1:=aA0 ha;have HA2:=aA0 hd1;have HOP:=aA0 hopn;have HB:=Bel.refl (w.alloc (.cells #[.slice A2 g.ids.length k2,.slice A3 g.ports.length k3] 29));have hcell:=aA0 (fun w' (kk:Bel (w.alloc (.cells #[.slice A2 g.ids.length k2,.slice A3 g.ports.length k3] 29)) w')=>And.intro (aA9 kk 0 (v := .slice A2 g.ids.length k2) rfl) (And.intro (aA9 kk 1 (v := .slice A3 g.ports.length k3) rfl) (aAx kk)));have hw1:IntKind.i64.wrap ((k:Int)+1)=(k:Int)+1:=IntWalk.i64_in _ (by omega)
  have HK1:=aA0 (show (k:Int)+1=((k+1:Nat):Int) by omega)
  have HK2:=aA0 (show (k:Int)+1+(a.len:Int)=((k+1+a.len:Nat):Int) by omega)
  have HBO1:Hid (aB1 b a):=hbo.1;have HBO2:Hid (aB1 b d):=hbo.2;have hop:=(aB6 t.op).2.2.1 har
  have HE:Hid ((aCl t.op (aAs g c v port a) (aAs g c v port d)).1=aAs g c v port (.bin t a d)):=by
   show (aCl t.op (aAs g c v port a) (aAs g c v port d)).1=aDo t.op (aAs g c v port a) (aAs g c v port d)
   have n1:=aNa (aH1 hs ha.1 (fun t ht=>harg t (aFt ha t ht)) hbo.1 hpo);have n2:=aNa (aH1 hs hd1.1 (fun t ht=>harg t (aFt hd1 t ht)) hbo.2 hpo);unfold aCl;rw [if_neg (by rw [n1,n2];simp;omega)]
  have hpa:=a.pos
  have HC1:=aA0 (fun (i:Int) (w':World) (hi:i=(k:Int)+1) (kk:Bel w w')=>show Calls prog 118 #[.agg #[.slice A2 g.ids.length k2,.slice A3 g.ports.length k3],.slice A4 c.length k4,.int .i64 v,.int .i64 port,.slice (some ⟨b1,o1,none⟩) es.length ce,.int .i64 i] w' (fun e w2=>e = .returned (.int .i64 (aAs g c v port a))/\Bel w' w2) by
   rw [hi];exact HI1.out b port _ _ _ _ es (k+1) _ (HGV.out _ kk) (HCV.out _ kk) (HT.out _ kk) HA1.out HARG.out hlen HBO1.out HPO.out)
  have HC2:=aA0 (fun (i:Int) (w':World) (hi:i=(k:Int)+1+(a.len:Int)) (kk:Bel w w')=>show Calls prog 118 #[.agg #[.slice A2 g.ids.length k2,.slice A3 g.ports.length k3],.slice A4 c.length k4,.int .i64 v,.int .i64 port,.slice (some ⟨b1,o1,none⟩) es.length ce,.int .i64 i] w' (fun e w2=>e = .returned (.int .i64 (aAs g c v port d))/\Bel w' w2) by
   rw [hi,HK2.out];exact HI2.out b port _ _ _ _ es (k+1+a.len) _ (HGV.out _ kk) (HCV.out _ kk) (HT.out _ kk) HA2.out HARG.out hlen HBO2.out HPO.out)
  clear hh hhe harg hT har hat hbo hpo iha ihd ha hd1 hopn;go_enter func118,ntmps118
  go_wp2_with (go_at_call 132;refine (aAr _ _).mono ?_;rintro e w' ⟨rfl,rfl⟩;rw [HAR.out])
  replace HB:=HB.drew
  go_region_held3 (fun w'=>w'.cell? ⟨w.heap.size,0,none⟩=some (.slice A2 g.ids.length k2)/\w'.cell? ⟨w.heap.size,1,none⟩=some (.slice A3 g.ports.length k3)/\w.heap.size<w'.heap.size) (exact hcell.out _ HB)
   (first
    | (go_simp;go_at_call 138;refine (aBh _ _ _ es _ _ _ (HT.out _ (aA4 HB)) (by omega)).mono ?_;rintro e w' ⟨rfl,rfl⟩;rw [HOP.out])
    | (go_simp;go_at_call 118;first
      | (refine Calls.mono (HC1.out _ _ ?_ (aA4 HB)) ?_;omega;rintro e w4 ⟨rfl,hbb⟩;replace HB:=HB.trans hbb;clear hbb)
      | (refine Calls.mono (HC2.out _ _ ?_ (aA4 HB)) ?_;omega;rintro e w4 ⟨rfl,hbb⟩;replace HB:=HB.trans hbb;clear hbb))
    | (go_simp;go_at_call 137;refine (aQ5 _ _ _ _).mono ?_;rintro e w' ⟨rfl,rfl⟩;rw [HE.out]))
  all_goals
   go_wp2_with fail
   go_ret;exact ⟨rfl,aA4 HB⟩
 | tri t a d f iha ihd ihf =>
  intro b port gv cv A ce es k w hgv hcv hT hat harg hlen hbo hpo
  have hlt:=At.lt hat;obtain ⟨hh,har,ha,hd1,hf1⟩:=At.tri hat;have hbd:=At.bound ha;have hbd2:=At.bound hd1;have hbd3:=At.bound hf1;have hopn:=At.operand1 hat hh (by omega) ha
  have hopn2:=At.operand2 hat hh (by omega) ha hd1
  obtain ⟨b1,o1,rfl,hb1,c1,c2⟩:=hT.at_ k hlt;have hhe:es[k]=t:=by rw [List.getElem?_eq_getElem hlt] at hh;simpa using hh
  rw [hhe] at c1 c2;have HGV:=aA0 (fun w' (k:Bel w w')=>hgv.keep k);have HCV:=aA0 (fun w' (k:Bel w w')=>hcv.keep k);have HT:=aA0 (fun w' (k:Bel w w')=>aB0.keep hT k);obtain ⟨A2,k2,A3,k3,rfl,_,_,_,_,_,_⟩:=hgv;obtain ⟨A4,k4,rfl,_,_,_⟩:=hcv;have HAR:=aA0 har;have HARG:=aA0 harg;have HPO:=aA0 hpo;have HI1:=aA0 iha;have HI2:=aA0 ihd;have HA1:=aA0 ha;have HA2:=aA0 hd1;have HI3:=aA0 ihf;have HA3:=aA0 hf1;have HOP2:=aA0 hopn2;have HK3:=aA0 (show (k:Int)+1+(a.len:Int)+(d.len:Int)=((k+1+a.len+d.len:Nat):Int) by omega)
  have HOP:=aA0 hopn;have HB:=Bel.refl (w.alloc (.cells #[.slice A2 g.ids.length k2,.slice A3 g.ports.length k3] 29));have hcell:=aA0 (fun w' (kk:Bel (w.alloc (.cells #[.slice A2 g.ids.length k2,.slice A3 g.ports.length k3] 29)) w')=>And.intro (aA9 kk 0 (v := .slice A2 g.ids.length k2) rfl) (And.intro (aA9 kk 1 (v := .slice A3 g.ports.length k3) rfl) (aAx kk)));have hw1:IntKind.i64.wrap ((k:Int)+1)=(k:Int)+1:=IntWalk.i64_in _ (by omega)
  have HK1:=aA0 (show (k:Int)+1=((k+1:Nat):Int) by omega)
  have HK2:=aA0 (show (k:Int)+1+(a.len:Int)=((k+1+a.len:Nat):Int) by omega)
  have HBO1:Hid (aB1 b a):=hbo.1;have HBO2:Hid (aB1 b d):=hbo.2.1;have HBO3:Hid (aB1 b f):=hbo.2.2;have HE:Hid (aAs g c v port (.tri t a d f)=if aAs g c v port a≠0 then aAs g c v port d else aAs g c v port f):=rfl
  clear hh hhe harg hT har hat hbo hpo iha ihd ihf ha hd1 hf1 hopn hopn2;go_enter func118,ntmps118
  go_wp2_with (go_at_call 132;refine (aAr _ _).mono ?_;rintro e w' ⟨rfl,rfl⟩;rw [HAR.out])
  refine (HI1.out b port _ _ _ _ es (k+1) _ (HGV.out _ (aA4 HB)) (HCV.out _ (aA4 HB)) (HT.out _ (aA4 HB)) HA1.out HARG.out hlen HBO1.out HPO.out).mono ?_
  rintro e w4 ⟨rfl,hbb⟩;replace HB:=HB.trans hbb;clear hbb;obtain ⟨q0,q1,q2⟩:=hcell.out _ HB
  by_cases hz:aAs g c v port a=0
  .have hzb:(aAs g c v port a != 0)=false:=by simpa using hz
   rw [if_neg (by simpa using hz)] at HE
   have HZ:=aA0 hz;clear hz
   go_wp2_with fail
   replace HB:=HB.drew
   go_region_held3 (fun w'=>w'.cell? ⟨w.heap.size,0,none⟩=some (.slice A2 g.ids.length k2)/\w'.cell? ⟨w.heap.size,1,none⟩=some (.slice A3 g.ports.length k3)/\w.heap.size<w'.heap.size) (exact hcell.out _ HB)
    (first
     | (go_simp;go_at_call 138;refine (aBh _ _ _ es _ _ _ (HT.out _ (aA4 HB)) (by omega)).mono ?_;rintro e w' ⟨rfl,rfl⟩;rw [HOP2.out])
     | (go_simp;go_at_call 118;refine (HI3.out b port _ _ _ _ es (k+1+a.len+d.len) _ (HGV.out _ (aA4 HB)) (HCV.out _ (aA4 HB)) (HT.out _ (aA4 HB)) HA3.out HARG.out hlen HBO3.out HPO.out).mono ?_;rintro e w5 ⟨rfl,hbb⟩;replace HB:=HB.trans hbb;clear hbb))
   all_goals
    go_wp2_with fail
    go_ret;exact ⟨aA5 HE.out.symm,aA4 HB⟩
  .have hzb:(aAs g c v port a != 0)=true:=by simpa using hz
   rw [if_pos hz] at HE;have HZ:=aA0 hz;clear hz
   go_wp2_with fail
   replace HB:=HB.drew
   go_region_held3 (fun w'=>w'.cell? ⟨w.heap.size,0,none⟩=some (.slice A2 g.ids.length k2)/\w'.cell? ⟨w.heap.size,1,none⟩=some (.slice A3 g.ports.length k3)/\w.heap.size<w'.heap.size) (exact hcell.out _ HB)
    (first
     | (go_simp;go_at_call 138;refine (aBh _ _ _ es _ _ _ (HT.out _ (aA4 HB)) (by omega)).mono ?_;rintro e w' ⟨rfl,rfl⟩;rw [HOP.out])
     | (go_simp;go_at_call 118;refine (HI2.out b port _ _ _ _ es (k+1+a.len) _ (HGV.out _ (aA4 HB)) (HCV.out _ (aA4 HB)) (HT.out _ (aA4 HB)) HA2.out HARG.out hlen HBO2.out HPO.out).mono ?_;rintro e w5 ⟨rfl,hbb⟩;replace HB:=HB.trans hbb;clear hbb))
   all_goals
    go_wp2_with fail
    go_ret;exact ⟨aA5 HE.out.symm,aA4 HB⟩
end Go.Proofs.YtdcjnhoabbdanaaGreatDoor

