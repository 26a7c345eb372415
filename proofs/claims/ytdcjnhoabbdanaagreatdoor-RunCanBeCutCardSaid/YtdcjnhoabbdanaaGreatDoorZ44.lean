/- Merged. -/
import Derived.Test.YtdcjnhoabbdanaaGreatDoorZ40
import Derived.Test.YtdcjnhoabbdanaaGreatDoorZ39
set_option linter.unusedSimpArgs false
set_option linter.unnecessarySimpa false
set_option linter.unusedVariables false
set_option maxRecDepth 100000
set_option maxHeartbeats 8000000
open Go.Proofs.Tryz

namespace Go.Proofs.YtdcjnhoabbdanaaGreatDoor
open Go.RowKit
theorem aL6 (v1:Value) (p:Prg) (v2:Value) (g:Graph) (kind:Int) (v3:Value) (c:aA5) (Al:Option Addr) (cl:Nat) (l:List Nat) (cut:Int) (w:World) (h:aEo w v1 p) (h2:aAm w v2 g) (h3:aAr w v3 c) (hM:aAb w Al l.length l) (hl32:∀ y∈l,y<4294967296) (hT:aC3 w) :
  Calls prog 5 #[v1,v2,.int .i64 kind,v3,.slice Al l.length cl,.int .i64 cut] w fun e w'=>e = .returned (.bool true)/\Bel w w':=by
 have HMT:=aA0 (fun w' (k:Bel w w')=>And.intro (aAb.keep hM k) (hT.keep k));have H32:=aA0 hl32;clear hM hT hl32;have HPV:=aA0 (fun w' (k:Bel w w')=>h.keep k);have HGV:=aA0 (fun w' (k:Bel w w')=>h2.keep k);have HCV:=aA0 (fun w' (k:Bel w w')=>h3.keep k);obtain ⟨A1,k1,A2,k2,rfl,_,_,_,_,_,_⟩:=h;obtain ⟨A3,k3,A4,k4,rfl,_,_,_,_,_,_⟩:=h2;obtain ⟨A5,k5,rfl,_,_,_⟩:=h3;have HW:=Bel.refl ((w.alloc (.cells #[.string p.name,.slice A1 p.vars.length k1,.slice A2 p.rules.length k2] 25)).alloc (.cells #[.slice A3 g.ids.length k3,.slice A4 g.ports.length k4] 29));cases hs:aHg p g c (l.length:Int) with
 | false =>
  go_enter func5,ntmps5
  go_wp2_with (first
   | (go_at_call 16;refine (aCc _ p _ g _ c _ _ (HPV.out _ (aA1 HW)) (HGV.out _ (aA1 HW)) (HCV.out _ (aA1 HW))).mono ?_;rintro e w' ⟨rfl,hb⟩;rw [hs];replace HW:=HW.trans hb;clear hb;(try clear p0 p1 p2 g0 g1 gsz);obtain ⟨p0,p1,p2,g0,g1,gsz⟩:=aAf HW)
   | (go_at_call 12;refine (aBy _ (HMT.out _ (aA1 HW)).2).mono ?_;rintro e w' ⟨rfl,hb⟩;replace HW:=HW.trans hb;clear hb;(try clear p0 p1 p2 g0 g1 gsz);obtain ⟨p0,p1,p2,g0,g1,gsz⟩:=aAf HW))
  go_ret;exact ⟨rfl,aA1 HW⟩
 | true =>
  obtain ⟨hL,hG,hC,hn,hm⟩:=aEm hs;have hg:=(aAt (aB6 hm).1).2.1;obtain ⟨mk,hmk⟩:∃ mk,aX9 kind 4=mk:=⟨_,rfl⟩;have rmk:0<=mk/\mk<4:=by rw [<- hmk];exact ⟨Int.emod_nonneg kind (by omega),Int.emod_lt_of_pos kind (by omega)⟩
  have hkmk:aDk (1+mk)=true:=by rw [<- hmk];exact aH3 kind
  obtain ⟨T,hP⟩:=aHo (p:=p) hg hkmk hm l;have HMK:=aA0 hmk;have HS:=aA0 hs;have HL:=aA0 hL;have HGL:=aA0 hG;have HCL:=aA0 hC;have HM:=aA0 hm;have HG:=aA0 hg;have HK:=aA0 hkmk;have HP:=aA0 hP;have HTL:=aA0 (aCq hP.ok.mem hL);have hE:=aA0 hP.elen;have hTl:T.chosen.length<=l.length:=hP.len;have hn60:l.length<=60:=by omega
  obtain ⟨q,hmq,hql⟩:=aNn cut (n:=T.chosen.length+1) (by omega)
  have HMQ:Hid (aX9 cut ((T.chosen.length:Int)+1)=(q:Int)):=by have:=hmq;rw [Int.natCast_add] at this;exact this
  obtain ⟨a,b,ha,ham,hb,hbl,hae,hbe,hcnt⟩:=aZc hm hP.all hP.play q (by omega)
  obtain ⟨l1,hl1⟩:∃ l1,T.chosen.take q=l1:=⟨_,rfl⟩;obtain ⟨l2,hl2⟩:∃ l2,T.chosen.drop q=l2:=⟨_,rfl⟩;have n1:l1.length=q:=by rw [<- hl1,List.length_take];omega
  have n2:l2.length=T.chosen.length-q:=by rw [<- hl2,List.length_drop]
  have HY1:Hid (∀ S∈l1,S<4294967296):=by rw [<- hl1];exact fun S hS=>hP.all S (List.mem_of_mem_take hS)
  have HY2:Hid (∀ S∈l2,S<4294967296):=by rw [<- hl2];exact fun S hS=>hP.all S (List.mem_of_mem_drop hS)
  have HT1:=aA0 hl1;have HT2:=aA0 hl2;rw [hl1] at ha;rw [hl2] at hb;have HA:=aA0 ha;have HB:=aA0 hb;have HAM:=aA0 ham;have HAL:=aA0 (aCq ham hL);have HBL:=aA0 hbl;have HAE:=aA0 hae;have HBE:=aA0 hbe;have nA:a.enabled.length=q+1:=by rw [hae,List.length_take,hP.elen];omega
  have nB:b.enabled.length=T.enabled.length-q:=by rw [hbe,List.length_drop]
  have N1:=aA0 n1;have N2:=aA0 n2;have NA:=aA0 nA;have NB:=aA0 nB;have hcw:IntKind.i64.wrap (a.count.moves+b.count.moves)=T.count.moves:=by rw [hcnt];exact IntWalk.i64_in _ (by have:=hP.ok.count.moves1;have:=hP.ok.count.moves2;omega)
  have hne:((T.enabled.length:Int) != (T.chosen.length:Int)+1)=false:=by rw [hE.out];simp
  obtain ⟨i0,hi0,hz0,hz1,hz2⟩:=info_parts aLj;have hcell:=aA0 (fun w' (kk:Bel ((w.alloc (.cells #[.string p.name,.slice A1 p.vars.length k1,.slice A2 p.rules.length k2] 25)).alloc (.cells #[.slice A3 g.ids.length k3,.slice A4 g.ports.length k4] 29)) w')=>aAf kk);clear hs hL hG hC hm hkmk hP hmk hg hn hmq ha hb ham hbl hae hbe hcnt hl1 hl2 n1 n2 nA nB;go_enter func5,ntmps5
  go_upto_region 5 with (first
   | (go_at_call 16;refine (aCc _ p _ g _ c _ _ (HPV.out _ (aA1 HW)) (HGV.out _ (aA1 HW)) (HCV.out _ (aA1 HW))).mono ?_;rintro e w' ⟨rfl,hb⟩;rw [HS.out];replace HW:=HW.trans hb;clear hb;(try clear p0 p1 p2 g0 g1 gsz);obtain ⟨p0,p1,p2,g0,g1,gsz⟩:=aAf HW)
   | (go_at_call 17;refine (aIl _ _ _ (by omega) (by omega)).mono ?_;rintro e w' ⟨rfl,rfl⟩;rw [HMK.out])
   | (go_at_call 18;refine (aE7 _ p _ g _ c (1+mk) Al cl l _ (HPV.out _ (aA1 HW)) (HGV.out _ (aA1 HW)) (HCV.out _ (aA1 HW)) HL.out HGL.out HCL.out (HMT.out _ (aA1 HW)).1 (HMT.out _ (aA1 HW)).2 H32.out (by omega) HM.out HK.out T HP.out).mono ?_;rintro e w2 ⟨tA,tk,tB,tl,tC,tm,rfl,tq1,tq2,tq3,tq4,tq5,tq6,tq7,hb⟩;replace HW:=HW.trans hb;clear hb;(try clear p0 p1 p2 g0 g1 gsz);obtain ⟨p0,p1,p2,g0,g1,gsz⟩:=aAf HW))
  have HXt:Hid (Blk (w2.alloc (.cells #[.slice tA T.chosen.length tk,.slice tB T.enabled.length tl,.slice tC T.last.length tm,.int .i64 T.count.steps,.int .i64 T.count.moves,.int .i64 T.count.rounds,.int .i64 T.count.begun,.int .u32 (T.count.pending:Int)] 38)) w2.heap.size #[.slice tA T.chosen.length tk,.slice tB T.enabled.length tl,.slice tC T.last.length tm,.int .i64 T.count.steps,.int .i64 T.count.moves,.int .i64 T.count.rounds,.int .i64 T.count.begun,.int .u32 (T.count.pending:Int)] 38):=Blk.new _ _ _;have HMt:Hid (∀ W,Bel (w2.alloc (.cells #[.slice tA T.chosen.length tk,.slice tB T.enabled.length tl,.slice tC T.last.length tm,.int .i64 T.count.steps,.int .i64 T.count.moves,.int .i64 T.count.rounds,.int .i64 T.count.begun,.int .u32 (T.count.pending:Int)] 38)) W->aAb W tA T.chosen.length T.chosen/\aAb W tB T.enabled.length T.enabled/\aAr W (.slice tC T.last.length tm) T.last):=fun W k=>have k2:=((Bel.refl w2).alloc _).trans k;⟨tq1 W (Agr.of_belM k2),tq4 W (Agr.of_belM k2),tq7 W (Agr.of_belM k2)⟩;replace HW:=HW.alloc (.cells #[.slice tA T.chosen.length tk,.slice tB T.enabled.length tl,.slice tC T.last.length tm,.int .i64 T.count.steps,.int .i64 T.count.moves,.int .i64 T.count.rounds,.int .i64 T.count.begun,.int .u32 (T.count.pending:Int)] 38);clear tq1 tq4 tq7;generalize w2.alloc (.cells #[.slice tA T.chosen.length tk,.slice tB T.enabled.length tl,.slice tC T.last.length tm,.int .i64 T.count.steps,.int .i64 T.count.moves,.int .i64 T.count.rounds,.int .i64 T.count.begun,.int .u32 (T.count.pending:Int)] 38)=Wt at *;generalize w2.heap.size=bt at *;have hct:Hid (∀ w',Bel Wt w'->w'.cell? ⟨bt,0,none⟩=some (.slice tA T.chosen.length tk)/\w'.cell? ⟨bt,1,none⟩=some (.slice tB T.enabled.length tl)/\w'.cell? ⟨bt,2,none⟩=some (.slice tC T.last.length tm)/\w'.cell? ⟨bt,3,none⟩=some (.int .i64 T.count.steps)/\w'.cell? ⟨bt,4,none⟩=some (.int .i64 T.count.moves)/\w'.cell? ⟨bt,5,none⟩=some (.int .i64 T.count.rounds)/\w'.cell? ⟨bt,6,none⟩=some (.int .i64 T.count.begun)/\w'.cell? ⟨bt,7,none⟩=some (.int .u32 (T.count.pending:Int))/\bt<w'.heap.size):=fun w' k=>have q:=HXt.out.keep k;⟨q.cell 0 rfl,q.cell 1 rfl,q.cell 2 rfl,q.cell 3 rfl,q.cell 4 rfl,q.cell 5 rfl,q.cell 6 rfl,q.cell 7 rfl,q.lt⟩;have HVt:Hid (∀ w',Bel Wt w'->aCl w' (.agg #[.slice tA T.chosen.length tk,.slice tB T.enabled.length tl,.slice tC T.last.length tm,.int .i64 T.count.steps,.int .i64 T.count.moves,.int .i64 T.count.rounds,.int .i64 T.count.begun,.int .u32 (T.count.pending:Int)]) T):=fun w' k=>have q:=HMt.out w' k;⟨tA,tk,tB,tl,tC,tm,rfl,q.1,tq2,tq3,q.2.1,tq5,tq6,q.2.2⟩;have HBt:=Bel.refl Wt;obtain ⟨t0,t1,t2,t3,t4,t5,t6,t7,tz⟩:=hct.out _ HBt
  (try clear p0 p1 p2 g0 g1 gsz)
  obtain ⟨p0,p1,p2,g0,g1,gsz⟩:=aAf HW
  go_upto_region 8 with (go_at_call 17;refine (aIl _ _ _ (by omega) (by omega)).mono ?_;rintro e w' ⟨rfl,rfl⟩;rw [HMQ.out])
  have HWt:=aA0 HW
  have hup:∀ w,(Instr.slice 31 (.slice tA T.chosen.length tk) none (some (.int .i64 (q:Int))) none).run prog w = .ok (.slice tA l1.length tk) w:=fun w=>by
   have:=aHv (P:=prog) underlying31 hi0 tA T.chosen.length tk q (by omega) .i64 w
   rw [N1.out];exact this
  have hup2:∀ w,(Instr.slice 31 (.slice tB T.enabled.length tl) none (some (.int .i64 ((q:Int)+1))) none).run prog w = .ok (.slice tB a.enabled.length tl) w:=fun w=>by
   have:=aHv (P:=prog) underlying31 hi0 tB T.enabled.length tl (q+1) (by have:=hE.out;omega) .i64 w
   rw [Int.natCast_add,<- NA.out] at this;exact this
  obtain ⟨yA,hcut,hcutR⟩:=aSf (P:=prog) underlying31 hi0 hz1 tA T.chosen.length tk q (by omega) (by omega)
  obtain ⟨yB,hcut2,hcutR2⟩:=aSf (P:=prog) underlying31 hi0 hz1 tB T.enabled.length tl q (by have:=hE.out;omega) (by omega)
  rw [<- N2.out] at hcut;rw [<- NB.out] at hcut2;have hMk1:=aA0 (fun W (k:Bel Wt W)=>show aAb W tA l1.length l1 from by rw [N1.out,<- HT1.out];exact aAc.take (HMt.out W k).1 q (by omega))
  have hMk2:=aA0 (fun W (k:Bel Wt W)=>show aAb W yA l2.length l2 from by rw [N2.out,<- HT2.out];exact hcutR _ W _ (HMt.out W k).1)
  have hMk3:=aA0 (fun W (k:Bel Wt W)=>show aAb W tB a.enabled.length a.enabled from by rw [NA.out,HAE.out];exact aAc.take (HMt.out W k).2.1 (q+1) (by have:=hE.out;omega))
  have hMk4:=aA0 (fun W (k:Bel Wt W)=>show aAb W yB b.enabled.length b.enabled from by rw [NB.out,HBE.out];exact hcutR2 _ W _ (HMt.out W k).2.1)
  have hS1:=aA0 (fun w' (k:Bel Wt w')=>And.intro (aAf (HWt.out.trans k)) (hct.out w' k));clear hcutR hcutR2
  go_cut [16,17] (fun pv ev wc=>∃ (aA:Option Addr) (ak:Nat) (aB:Option Addr) (al:Nat) (aC:Option Addr) (am:Nat) (ba:Nat),pv = .pointer (some ⟨ba,0,none⟩)/\ev = .int .i64 0/\Hid (Blk wc ba #[.slice aA a.chosen.length ak,.slice aB a.enabled.length al,.slice aC a.last.length am,.int .i64 a.count.steps,.int .i64 a.count.moves,.int .i64 a.count.rounds,.int .i64 a.count.begun,.int .u32 (a.count.pending:Int)] 38)/\Hid (∀ W,Bel wc W->aAb W aA a.chosen.length a.chosen/\aAb W aB a.enabled.length a.enabled/\aAr W (.slice aC a.last.length am) a.last)/\Hid (a.chosen.length<=ak/\ak<=maxLen/\a.enabled.length<=al/\al<=maxLen)/\Bel Wt wc)
  case first =>
   refine aA6.start (fun w'=>(fun w'=>w'.cell? ⟨w.heap.size,0,none⟩=some (.string p.name)/\w'.cell? ⟨w.heap.size,1,none⟩=some (.slice A1 p.vars.length k1)/\w'.cell? ⟨w.heap.size,2,none⟩=some (.slice A2 p.rules.length k2)/\w'.cell? ⟨w.heap.size+1,0,none⟩=some (.slice A3 g.ids.length k3)/\w'.cell? ⟨w.heap.size+1,1,none⟩=some (.slice A4 g.ports.length k4)/\w.heap.size+1<w'.heap.size) w'/\w'.cell? ⟨bt,0,none⟩=some (.slice tA T.chosen.length tk)/\w'.cell? ⟨bt,1,none⟩=some (.slice tB T.enabled.length tl)/\w'.cell? ⟨bt,2,none⟩=some (.slice tC T.last.length tm)/\w'.cell? ⟨bt,3,none⟩=some (.int .i64 T.count.steps)/\w'.cell? ⟨bt,4,none⟩=some (.int .i64 T.count.moves)/\w'.cell? ⟨bt,5,none⟩=some (.int .i64 T.count.rounds)/\w'.cell? ⟨bt,6,none⟩=some (.int .i64 T.count.begun)/\w'.cell? ⟨bt,7,none⟩=some (.int .u32 (T.count.pending:Int))/\bt<w'.heap.size) 14 (by kernel_rfl) ?_
   have HW0:=aA0 HW;have HBt0:=aA0 HBt;replace HW:=HW.drew;replace HBt:=HBt.drew;have hHeld:=hS1.out _ HBt
   (refine aA6.t (v:=?_) 0 59 rfl rfl (by kernel_rfl) (fun _ _ _ h=>h) hHeld (Or.inl ⟨by rfl,?_⟩) ?_;rotate_left 1;focus (intro w' hSw;(try dsimp only at hSw);go_simp;(try with_reducible rfl);done))
   (refine aA6.t (v:=?_) 1 60 rfl rfl (by kernel_rfl) (fun _ _ _ h=>h) hHeld (Or.inl ⟨by rfl,?_⟩) ?_;rotate_left 1;focus (intro w' hSw;(try dsimp only at hSw);go_simp;(try with_reducible rfl);done))
   (refine aA6.t (v:=?_) 2 61 rfl rfl (by kernel_rfl) (fun _ _ _ h=>h) hHeld (Or.inl ⟨by rfl,?_⟩) ?_;rotate_left 1;focus (intro w' hSw;(try dsimp only at hSw);go_simp;(try with_reducible rfl);done))
   (refine aA6.t (v:=?_) 3 62 rfl rfl (by kernel_rfl) (fun _ _ _ h=>h) hHeld (Or.inl ⟨by rfl,?_⟩) ?_;rotate_left 1;focus (intro w' hSw;(try dsimp only at hSw);go_simp;(try with_reducible rfl);done))
   (refine aA6.t (v:=?_) 4 63 rfl rfl (by kernel_rfl) (fun _ _ _ h=>h) hHeld (Or.inl ⟨by rfl,?_⟩) ?_;rotate_left 1;focus (intro w' hSw;(try dsimp only at hSw);go_simp;(try with_reducible rfl);done))
   (refine aA6.t (v:=?_) 5 64 rfl rfl (by kernel_rfl) (fun _ _ _ h=>h) hHeld (Or.inl ⟨by rfl,?_⟩) ?_;rotate_left 1;focus (intro w' hSw;(try dsimp only at hSw);go_simp;(try with_reducible rfl);done))
   (refine aA6.t (v:=?_) 6 65 rfl rfl (by kernel_rfl) (fun _ _ _ h=>h) hHeld (Or.inl ⟨by rfl,?_⟩) ?_;rotate_left 1;focus (intro w' hSw;(try dsimp only at hSw);go_simp;(try with_reducible rfl);done))
   (refine aA6.t (v:=?_) 7 66 rfl rfl (by kernel_rfl) (fun _ _ _ h=>h) hHeld (Or.inl ⟨by rfl,?_⟩) ?_;rotate_left 1;focus (intro w' hSw;(try dsimp only at hSw);go_simp;(try with_reducible rfl);done))
   refine aA6.two (i:=8) (j:=12) (by kernel_rfl) rfl rfl (fun K hK=>?_) (fun K hK=>?_)
   .go_simp
    go_at_call 13
    refine (aDj _ p _ g _ c (1+mk) tA tk l1 _ (HPV.out _ (aA1 HW)) (HGV.out _ (aA1 HW)) (HCV.out _ (aA1 HW)) HL.out HGL.out HCL.out (hMk1.out _ HBt) (HMT.out _ (aA1 HW)).2 HY1.out (by rw [N1.out];omega) HM.out HK.out a HA.out).mono ?_
    rintro e w3 ⟨aA,ak,aB,al,aC,am,rfl,aq1,aq2,aq3,aq4,aq5,aq6,aq7,hb⟩;replace HW:=HW.trans hb;replace HBt:=HBt.trans hb;clear hb
    (try go_simp)
    refine hK.out _ _ (fun _=>hS1.out _ (HBt)) ?_
    clear hK K
    (try clear hHeld)
    (try simp only [Act.put,List.setIfInBounds_toArray,List.set_cons_zero,List.set_cons_succ])
    have hHeld:=hS1.out _ (HBt)
    (refine aA6.t (v:=?_) 9 58 rfl rfl (by kernel_rfl) (fun _ _ _ h=>h) hHeld (Or.inl ⟨by rfl,?_⟩) ?_;rotate_left 1;focus (intro w' hSw;(try dsimp only at hSw);go_simp;(try with_reducible rfl);done))
    (refine aA6.t (v:=?_) 10 68 rfl rfl (by kernel_rfl) (fun _ _ _ h=>h) hHeld (Or.inl ⟨by rfl,?_⟩) ?_;rotate_left 1;focus (intro w' hSw;(try dsimp only at hSw);go_simp;(try with_reducible rfl);done))
    (refine aA6.t (v:=?_) 11 69 rfl rfl (by kernel_rfl) (fun _ _ _ h=>h) hHeld (Or.inl ⟨by rfl,?_⟩) ?_;rotate_left 1;focus (intro w' hSw;(try dsimp only at hSw);go_simp;(try with_reducible rfl);done))
    refine aA6.one (i:=12) (by kernel_rfl) rfl (fun K hK=>?_)
    go_simp
    refine hK.out _ _ (fun _=>hS1.out _ (HBt.alloc _)) ?_
    clear hK K
    (try clear hHeld)
    (try simp only [Act.put,List.setIfInBounds_toArray,List.set_cons_zero,List.set_cons_succ])
    refine aA6.one (i:=13) (by kernel_rfl) rfl (fun K hK=>?_)
    go_simp
    refine hK.out _ _ (fun _=>hS1.out _ (HBt.alloc _)) ?_
    clear hK K
    (try clear hHeld)
    (try simp only [Act.put,List.setIfInBounds_toArray,List.set_cons_zero,List.set_cons_succ])
    refine aA6.one (i:=14) (by kernel_rfl) rfl (fun K hK=>?_)
    go_simp
    refine hK.out _ _ (fun h=>absurd rfl h) ?_
    clear hK K
    (try clear hHeld)
    refine aA6.done (by kernel_rfl) ?_ _
    go_wp2_with fail
    go_meet
    exact ⟨_,_,_,_,_,_,_,rfl,rfl,Blk.new _ _ _,fun W k=>have k2:=((Bel.refl w3).alloc _).trans k;⟨aq1 W (Agr.of_belM k2),aq4 W (Agr.of_belM k2),aq7 W (Agr.of_belM k2)⟩,⟨aq2,aq3,aq5,aq6⟩,HBt.alloc _⟩
   .go_simp
    refine hK.out _ _ (fun _=>hS1.out _ (HBt.alloc _)) ?_
    clear hK K
    (try clear hHeld)
    (try simp only [Act.put,List.setIfInBounds_toArray,List.set_cons_zero,List.set_cons_succ])
    have HZB:=aA0 ((Blk.new Wt #[.slice none 0 0,.slice none 0 0,.slice none 0 0,.int .i64 0,.int .i64 0,.int .i64 0,.int .i64 0,.int .u32 0] 38).drew);replace HW:=(HW0.out.alloc (.cells #[.slice none 0 0,.slice none 0 0,.slice none 0 0,.int .i64 0,.int .i64 0,.int .i64 0,.int .i64 0,.int .u32 0] 38)).drew;replace HBt:=(HBt0.out.alloc (.cells #[.slice none 0 0,.slice none 0 0,.slice none 0 0,.int .i64 0,.int .i64 0,.int .i64 0,.int .i64 0,.int .u32 0] 38)).drew;have hVs:=HZB.out.lt;generalize (Wt.alloc (.cells #[.slice none 0 0,.slice none 0 0,.slice none 0 0,.int .i64 0,.int .i64 0,.int .i64 0,.int .i64 0,.int .u32 0] 38)).drew=V at *;generalize hbzE:Wt.heap.size=bz at HZB hVs ⊢;have hbz:Wt.heap.size<=bz:=Nat.le_of_eq hbzE;clear hbzE;refine aA6.one (i:=8) (by kernel_rfl) rfl (fun K hK=>?_)
    go_simp
    go_at_call 13
    refine (aDj _ p _ g _ c (1+mk) tA tk l1 _ (HPV.out _ (aA1 HW)) (HGV.out _ (aA1 HW)) (HCV.out _ (aA1 HW)) HL.out HGL.out HCL.out (hMk1.out _ HBt) (HMT.out _ (aA1 HW)).2 HY1.out (by rw [N1.out];omega) HM.out HK.out a HA.out).mono ?_
    rintro e w3 ⟨aA,ak,aB,al,aC,am,rfl,aq1,aq2,aq3,aq4,aq5,aq6,aq7,hb⟩;replace HW:=HW.trans hb;replace HBt:=HBt.trans hb;replace HZB:=aA0 (HZB.out.keep hb);clear hb
    (try go_simp)
    refine hK.out _ _ (fun _=>hS1.out _ (HBt)) ?_
    clear hK K
    (try clear hHeld)
    (try simp only [Act.put,List.setIfInBounds_toArray,List.set_cons_zero,List.set_cons_succ])
    have hHeld:=hS1.out _ (HBt)
    (refine aA6.t (v:=?_) 9 58 rfl rfl (by kernel_rfl) (fun _ _ _ h=>h) hHeld (Or.inl ⟨by rfl,?_⟩) ?_;rotate_left 1;focus (intro w' hSw;(try dsimp only at hSw);go_simp;(try with_reducible rfl);done))
    (refine aA6.t (v:=?_) 10 68 rfl rfl (by kernel_rfl) (fun _ _ _ h=>h) hHeld (Or.inl ⟨by rfl,?_⟩) ?_;rotate_left 1;focus (intro w' hSw;(try dsimp only at hSw);go_simp;(try with_reducible rfl);done))
    (refine aA6.t (v:=?_) 11 69 rfl rfl (by kernel_rfl) (fun _ _ _ h=>h) hHeld (Or.inl ⟨by rfl,?_⟩) ?_;rotate_left 1;focus (intro w' hSw;(try dsimp only at hSw);go_simp;(try with_reducible rfl);done))
    have z0:=HZB.out.cell 0 (v := .slice none 0 0) rfl;have zf0:=HZB.out.frozen 0;have z1:=HZB.out.cell 1 (v := .slice none 0 0) rfl;have zf1:=HZB.out.frozen 1;have z2:=HZB.out.cell 2 (v := .slice none 0 0) rfl;have zf2:=HZB.out.frozen 2;have z3:=HZB.out.cell 3 (v := .int .i64 0) rfl;have zf3:=HZB.out.frozen 3;have z4:=HZB.out.cell 4 (v := .int .i64 0) rfl;have zf4:=HZB.out.frozen 4;have z5:=HZB.out.cell 5 (v := .int .i64 0) rfl;have zf5:=HZB.out.frozen 5;have z6:=HZB.out.cell 6 (v := .int .i64 0) rfl;have zf6:=HZB.out.frozen 6;have z7:=HZB.out.cell 7 (v := .int .u32 0) rfl;have zf7:=HZB.out.frozen 7;have zl:=HZB.out.lt;refine aA6.one (i:=13) (by kernel_rfl) rfl (fun K hK=>?_)
    go_simp
    refine hK.out _ _ (fun _=>hS1.out _ (HBt.trace hbz)) ?_
    clear hK K
    (try clear hHeld)
    (try simp only [Act.put,List.setIfInBounds_toArray,List.set_cons_zero,List.set_cons_succ])
    refine aA6.one (i:=14) (by kernel_rfl) rfl (fun K hK=>?_)
    go_simp
    refine hK.out _ _ (fun h=>absurd rfl h) ?_
    clear hK K
    (try clear hHeld)
    refine aA6.done (by kernel_rfl) ?_ _
    go_wp2_with fail
    go_meet
    exact ⟨_,_,_,_,_,_,_,rfl,rfl,HZB.out.trace,fun W k=>have k2:=(Agr.trace (E:=fun k=>k<V.heap.size) hVs).trans (Agr.of_belM k);⟨aq1 W k2,aq4 W k2,aq7 W k2⟩,⟨aq2,aq3,aq5,aq6⟩,HBt.trace hbz⟩
  obtain ⟨aA,ak,aB,al,aC,am,ba,rfl,rfl,HXa,HMa,⟨aq2,aq3,aq5,aq6⟩,hbc⟩:=hcut;replace HW:=HW.trans hbc;replace HBt:=HBt.trans hbc;have hca:Hid (∀ w',Bel wc w'->w'.cell? ⟨ba,0,none⟩=some (.slice aA a.chosen.length ak)/\w'.cell? ⟨ba,1,none⟩=some (.slice aB a.enabled.length al)/\w'.cell? ⟨ba,2,none⟩=some (.slice aC a.last.length am)/\w'.cell? ⟨ba,3,none⟩=some (.int .i64 a.count.steps)/\w'.cell? ⟨ba,4,none⟩=some (.int .i64 a.count.moves)/\w'.cell? ⟨ba,5,none⟩=some (.int .i64 a.count.rounds)/\w'.cell? ⟨ba,6,none⟩=some (.int .i64 a.count.begun)/\w'.cell? ⟨ba,7,none⟩=some (.int .u32 (a.count.pending:Int))/\ba<w'.heap.size):=fun w' k=>have q:=HXa.out.keep k;⟨q.cell 0 rfl,q.cell 1 rfl,q.cell 2 rfl,q.cell 3 rfl,q.cell 4 rfl,q.cell 5 rfl,q.cell 6 rfl,q.cell 7 rfl,q.lt⟩;obtain ⟨Wa,rfl⟩:∃ V:World,V=wc:=⟨_,rfl⟩;have HVa:Hid (∀ w',Bel Wa w'->aCl w' (.agg #[.slice aA a.chosen.length ak,.slice aB a.enabled.length al,.slice aC a.last.length am,.int .i64 a.count.steps,.int .i64 a.count.moves,.int .i64 a.count.rounds,.int .i64 a.count.begun,.int .u32 (a.count.pending:Int)]) a):=fun w' k=>have q:=HMa.out w' k;⟨aA,ak,aB,al,aC,am,rfl,q.1,aq2,aq3,q.2.1,aq5,aq6,q.2.2⟩;have HBa:=Bel.refl Wa
  (try clear p0 p1 p2 g0 g1 gsz)
  obtain ⟨p0,p1,p2,g0,g1,gsz⟩:=aAf HW
  (try clear a0 a1 a2 a3 a4 a5 a6 a7 az)
  obtain ⟨a0,a1,a2,a3,a4,a5,a6,a7,az⟩:=hca.out _ HBa
  (try clear t0 t1 t2 t3 t4 t5 t6 t7 tz)
  obtain ⟨t0,t1,t2,t3,t4,t5,t6,t7,tz⟩:=hct.out _ HBt;have HWa:=aA0 HW;have HBta:=aA0 HBt;have hS2:=aA0 (fun w' (k:Bel Wa w')=>And.intro (aAf (HWa.out.trans k)) (And.intro (hct.out w' (HBta.out.trans k)) (hca.out w' k)))
  go_upto_region 9 with fail
  go_cut [18,19] (fun pv ev wc=>∃ (bA:Option Addr) (bk:Nat) (bB:Option Addr) (bl:Nat) (bC:Option Addr) (bm:Nat) (bb:Nat),pv = .pointer (some ⟨bb,0,none⟩)/\ev = .int .i64 0/\Hid (Blk wc bb #[.slice bA b.chosen.length bk,.slice bB b.enabled.length bl,.slice bC b.last.length bm,.int .i64 b.count.steps,.int .i64 b.count.moves,.int .i64 b.count.rounds,.int .i64 b.count.begun,.int .u32 (b.count.pending:Int)] 38)/\Hid (∀ W,Bel wc W->aAb W bA b.chosen.length b.chosen/\aAb W bB b.enabled.length b.enabled/\aAr W (.slice bC b.last.length bm) b.last)/\Hid (b.chosen.length<=bk/\bk<=maxLen/\b.enabled.length<=bl/\bl<=maxLen)/\Bel Wa wc)
  case first =>
   refine aA6.start (fun w'=>(fun w'=>w'.cell? ⟨w.heap.size,0,none⟩=some (.string p.name)/\w'.cell? ⟨w.heap.size,1,none⟩=some (.slice A1 p.vars.length k1)/\w'.cell? ⟨w.heap.size,2,none⟩=some (.slice A2 p.rules.length k2)/\w'.cell? ⟨w.heap.size+1,0,none⟩=some (.slice A3 g.ids.length k3)/\w'.cell? ⟨w.heap.size+1,1,none⟩=some (.slice A4 g.ports.length k4)/\w.heap.size+1<w'.heap.size) w'/\(w'.cell? ⟨bt,0,none⟩=some (.slice tA T.chosen.length tk)/\w'.cell? ⟨bt,1,none⟩=some (.slice tB T.enabled.length tl)/\w'.cell? ⟨bt,2,none⟩=some (.slice tC T.last.length tm)/\w'.cell? ⟨bt,3,none⟩=some (.int .i64 T.count.steps)/\w'.cell? ⟨bt,4,none⟩=some (.int .i64 T.count.moves)/\w'.cell? ⟨bt,5,none⟩=some (.int .i64 T.count.rounds)/\w'.cell? ⟨bt,6,none⟩=some (.int .i64 T.count.begun)/\w'.cell? ⟨bt,7,none⟩=some (.int .u32 (T.count.pending:Int))/\bt<w'.heap.size)/\(w'.cell? ⟨ba,0,none⟩=some (.slice aA a.chosen.length ak)/\w'.cell? ⟨ba,1,none⟩=some (.slice aB a.enabled.length al)/\w'.cell? ⟨ba,2,none⟩=some (.slice aC a.last.length am)/\w'.cell? ⟨ba,3,none⟩=some (.int .i64 a.count.steps)/\w'.cell? ⟨ba,4,none⟩=some (.int .i64 a.count.moves)/\w'.cell? ⟨ba,5,none⟩=some (.int .i64 a.count.rounds)/\w'.cell? ⟨ba,6,none⟩=some (.int .i64 a.count.begun)/\w'.cell? ⟨ba,7,none⟩=some (.int .u32 (a.count.pending:Int))/\ba<w'.heap.size)) 15 (by kernel_rfl) ?_
   have HW0:=aA0 HW;have HBt0:=aA0 HBt;have HBa0:=aA0 HBa;replace HW:=HW.drew;replace HBt:=HBt.drew;replace HBa:=HBa.drew;have hHeld:=hS2.out _ HBa
   (refine aA6.t (v:=?_) 0 71 rfl rfl (by kernel_rfl) (fun _ _ _ h=>h) hHeld (Or.inl ⟨by rfl,?_⟩) ?_;rotate_left 1;focus (intro w' hSw;(try dsimp only at hSw);go_simp;(try with_reducible rfl);done))
   (refine aA6.t (v:=?_) 1 72 rfl rfl (by kernel_rfl) (fun _ _ _ h=>h) hHeld (Or.inl ⟨by rfl,?_⟩) ?_;rotate_left 1;focus (intro w' hSw;(try dsimp only at hSw);go_simp;(try with_reducible rfl);done))
   (refine aA6.t (v:=?_) 2 73 rfl rfl (by kernel_rfl) (fun _ _ _ h=>h) hHeld (Or.inl ⟨by rfl,?_⟩) ?_;rotate_left 1;focus (intro w' hSw;(try dsimp only at hSw);go_simp;(try with_reducible rfl);done))
   (refine aA6.t (v:=?_) 3 74 rfl rfl (by kernel_rfl) (fun _ _ _ h=>h) hHeld (Or.inl ⟨by rfl,?_⟩) ?_;rotate_left 1;focus (intro w' hSw;(try dsimp only at hSw);go_simp;(try with_reducible rfl);done))
   (refine aA6.t (v:=?_) 4 75 rfl rfl (by kernel_rfl) (fun _ _ _ h=>h) hHeld (Or.inl ⟨by rfl,?_⟩) ?_;rotate_left 1;focus (intro w' hSw;(try dsimp only at hSw);go_simp;(try with_reducible rfl);done))
   (refine aA6.t (v:=?_) 5 76 rfl rfl (by kernel_rfl) (fun _ _ _ h=>h) hHeld (Or.inl ⟨by rfl,?_⟩) ?_;rotate_left 1;focus (intro w' hSw;(try dsimp only at hSw);go_simp;(try with_reducible rfl);done))
   (refine aA6.t (v:=?_) 6 77 rfl rfl (by kernel_rfl) (fun _ _ _ h=>h) hHeld (Or.inl ⟨by rfl,?_⟩) ?_;rotate_left 1;focus (intro w' hSw;(try dsimp only at hSw);go_simp;(try with_reducible rfl);done))
   (refine aA6.t (v:=?_) 7 78 rfl rfl (by kernel_rfl) (fun _ _ _ h=>h) hHeld (Or.inl ⟨by rfl,?_⟩) ?_;rotate_left 1;focus (intro w' hSw;(try dsimp only at hSw);go_simp;(try with_reducible rfl);done))
   (refine aA6.t (v:=?_) 8 79 rfl rfl (by kernel_rfl) (fun _ _ _ h=>h) hHeld (Or.inl ⟨by rfl,?_⟩) ?_;rotate_left 1;focus (intro w' hSw;(try dsimp only at hSw);go_simp;(try with_reducible rfl);done))
   refine aA6.two (i:=9) (j:=13) (by kernel_rfl) rfl rfl (fun K hK=>?_) (fun K hK=>?_)
   .go_simp
    go_at_call 13
    refine (aDj _ p _ g _ a.last (1+mk) yA (tk-q) l2 _ (HPV.out _ (aA1 HW)) (HGV.out _ (aA1 HW)) (HMa.out _ HBa).2.2 HL.out HGL.out HAL.out (hMk2.out _ HBt) (HMT.out _ (aA1 HW)).2 HY2.out (by rw [N2.out];omega) HAM.out HK.out b HB.out).mono ?_
    rintro e w3 ⟨bA,bk,bB,bl,bC,bm,rfl,bq1,bq2,bq3,bq4,bq5,bq6,bq7,hb⟩;replace HW:=HW.trans hb;replace HBt:=HBt.trans hb;replace HBa:=HBa.trans hb;clear hb
    (try go_simp)
    refine hK.out _ _ (fun _=>hS2.out _ (HBa)) ?_
    clear hK K
    (try clear hHeld)
    (try simp only [Act.put,List.setIfInBounds_toArray,List.set_cons_zero,List.set_cons_succ])
    have hHeld:=hS2.out _ (HBa)
    (refine aA6.t (v:=?_) 10 70 rfl rfl (by kernel_rfl) (fun _ _ _ h=>h) hHeld (Or.inl ⟨by rfl,?_⟩) ?_;rotate_left 1;focus (intro w' hSw;(try dsimp only at hSw);go_simp;(try with_reducible rfl);done))
    (refine aA6.t (v:=?_) 11 81 rfl rfl (by kernel_rfl) (fun _ _ _ h=>h) hHeld (Or.inl ⟨by rfl,?_⟩) ?_;rotate_left 1;focus (intro w' hSw;(try dsimp only at hSw);go_simp;(try with_reducible rfl);done))
    (refine aA6.t (v:=?_) 12 82 rfl rfl (by kernel_rfl) (fun _ _ _ h=>h) hHeld (Or.inl ⟨by rfl,?_⟩) ?_;rotate_left 1;focus (intro w' hSw;(try dsimp only at hSw);go_simp;(try with_reducible rfl);done))
    refine aA6.one (i:=13) (by kernel_rfl) rfl (fun K hK=>?_)
    go_simp
    refine hK.out _ _ (fun _=>hS2.out _ (HBa.alloc _)) ?_
    clear hK K
    (try clear hHeld)
    (try simp only [Act.put,List.setIfInBounds_toArray,List.set_cons_zero,List.set_cons_succ])
    refine aA6.one (i:=14) (by kernel_rfl) rfl (fun K hK=>?_)
    go_simp
    refine hK.out _ _ (fun _=>hS2.out _ (HBa.alloc _)) ?_
    clear hK K
    (try clear hHeld)
    (try simp only [Act.put,List.setIfInBounds_toArray,List.set_cons_zero,List.set_cons_succ])
    refine aA6.one (i:=15) (by kernel_rfl) rfl (fun K hK=>?_)
    go_simp
    refine hK.out _ _ (fun h=>absurd rfl h) ?_
    clear hK K
    (try clear hHeld)
    refine aA6.done (by kernel_rfl) ?_ _
    go_wp2_with fail
    go_meet
    exact ⟨_,_,_,_,_,_,_,rfl,rfl,Blk.new _ _ _,fun W k=>have k2:=((Bel.refl w3).alloc _).trans k;⟨bq1 W (Agr.of_belM k2),bq4 W (Agr.of_belM k2),bq7 W (Agr.of_belM k2)⟩,⟨bq2,bq3,bq5,bq6⟩,HBa.alloc _⟩
   .go_simp
    refine hK.out _ _ (fun _=>hS2.out _ (HBa.alloc _)) ?_
    clear hK K
    (try clear hHeld)
    (try simp only [Act.put,List.setIfInBounds_toArray,List.set_cons_zero,List.set_cons_succ])
    have HZB:=aA0 ((Blk.new Wa #[.slice none 0 0,.slice none 0 0,.slice none 0 0,.int .i64 0,.int .i64 0,.int .i64 0,.int .i64 0,.int .u32 0] 38).drew);replace HW:=(HW0.out.alloc (.cells #[.slice none 0 0,.slice none 0 0,.slice none 0 0,.int .i64 0,.int .i64 0,.int .i64 0,.int .i64 0,.int .u32 0] 38)).drew;replace HBt:=(HBt0.out.alloc (.cells #[.slice none 0 0,.slice none 0 0,.slice none 0 0,.int .i64 0,.int .i64 0,.int .i64 0,.int .i64 0,.int .u32 0] 38)).drew;replace HBa:=(HBa0.out.alloc (.cells #[.slice none 0 0,.slice none 0 0,.slice none 0 0,.int .i64 0,.int .i64 0,.int .i64 0,.int .i64 0,.int .u32 0] 38)).drew;have hVs:=HZB.out.lt;generalize (Wa.alloc (.cells #[.slice none 0 0,.slice none 0 0,.slice none 0 0,.int .i64 0,.int .i64 0,.int .i64 0,.int .i64 0,.int .u32 0] 38)).drew=V at *;generalize hbzE:Wa.heap.size=bz at HZB hVs ⊢;have hbz:Wa.heap.size<=bz:=Nat.le_of_eq hbzE;clear hbzE;refine aA6.one (i:=9) (by kernel_rfl) rfl (fun K hK=>?_)
    go_simp
    go_at_call 13
    refine (aDj _ p _ g _ a.last (1+mk) yA (tk-q) l2 _ (HPV.out _ (aA1 HW)) (HGV.out _ (aA1 HW)) (HMa.out _ HBa).2.2 HL.out HGL.out HAL.out (hMk2.out _ HBt) (HMT.out _ (aA1 HW)).2 HY2.out (by rw [N2.out];omega) HAM.out HK.out b HB.out).mono ?_
    rintro e w3 ⟨bA,bk,bB,bl,bC,bm,rfl,bq1,bq2,bq3,bq4,bq5,bq6,bq7,hb⟩;replace HW:=HW.trans hb;replace HBt:=HBt.trans hb;replace HBa:=HBa.trans hb;replace HZB:=aA0 (HZB.out.keep hb);clear hb
    (try go_simp)
    refine hK.out _ _ (fun _=>hS2.out _ (HBa)) ?_
    clear hK K
    (try clear hHeld)
    (try simp only [Act.put,List.setIfInBounds_toArray,List.set_cons_zero,List.set_cons_succ])
    have hHeld:=hS2.out _ (HBa)
    (refine aA6.t (v:=?_) 10 70 rfl rfl (by kernel_rfl) (fun _ _ _ h=>h) hHeld (Or.inl ⟨by rfl,?_⟩) ?_;rotate_left 1;focus (intro w' hSw;(try dsimp only at hSw);go_simp;(try with_reducible rfl);done))
    (refine aA6.t (v:=?_) 11 81 rfl rfl (by kernel_rfl) (fun _ _ _ h=>h) hHeld (Or.inl ⟨by rfl,?_⟩) ?_;rotate_left 1;focus (intro w' hSw;(try dsimp only at hSw);go_simp;(try with_reducible rfl);done))
    (refine aA6.t (v:=?_) 12 82 rfl rfl (by kernel_rfl) (fun _ _ _ h=>h) hHeld (Or.inl ⟨by rfl,?_⟩) ?_;rotate_left 1;focus (intro w' hSw;(try dsimp only at hSw);go_simp;(try with_reducible rfl);done))
    have z0:=HZB.out.cell 0 (v := .slice none 0 0) rfl;have zf0:=HZB.out.frozen 0;have z1:=HZB.out.cell 1 (v := .slice none 0 0) rfl;have zf1:=HZB.out.frozen 1;have z2:=HZB.out.cell 2 (v := .slice none 0 0) rfl;have zf2:=HZB.out.frozen 2;have z3:=HZB.out.cell 3 (v := .int .i64 0) rfl;have zf3:=HZB.out.frozen 3;have z4:=HZB.out.cell 4 (v := .int .i64 0) rfl;have zf4:=HZB.out.frozen 4;have z5:=HZB.out.cell 5 (v := .int .i64 0) rfl;have zf5:=HZB.out.frozen 5;have z6:=HZB.out.cell 6 (v := .int .i64 0) rfl;have zf6:=HZB.out.frozen 6;have z7:=HZB.out.cell 7 (v := .int .u32 0) rfl;have zf7:=HZB.out.frozen 7;have zl:=HZB.out.lt;refine aA6.one (i:=14) (by kernel_rfl) rfl (fun K hK=>?_)
    go_simp
    refine hK.out _ _ (fun _=>hS2.out _ (HBa.trace hbz)) ?_
    clear hK K
    (try clear hHeld)
    (try simp only [Act.put,List.setIfInBounds_toArray,List.set_cons_zero,List.set_cons_succ])
    refine aA6.one (i:=15) (by kernel_rfl) rfl (fun K hK=>?_)
    go_simp
    refine hK.out _ _ (fun h=>absurd rfl h) ?_
    clear hK K
    (try clear hHeld)
    refine aA6.done (by kernel_rfl) ?_ _
    go_wp2_with fail
    go_meet
    exact ⟨_,_,_,_,_,_,_,rfl,rfl,HZB.out.trace,fun W k=>have k2:=(Agr.trace (E:=fun k=>k<V.heap.size) hVs).trans (Agr.of_belM k);⟨bq1 W k2,bq4 W k2,bq7 W k2⟩,⟨bq2,bq3,bq5,bq6⟩,HBa.trace hbz⟩
  obtain ⟨bA,bk,bB,bl,bC,bm,bb,rfl,rfl,HXb,HMb,⟨bq2,bq3,bq5,bq6⟩,hbc⟩:=hcut;replace HW:=HW.trans hbc;replace HBt:=HBt.trans hbc;replace HBa:=HBa.trans hbc;have hcb:Hid (∀ w',Bel wc w'->w'.cell? ⟨bb,0,none⟩=some (.slice bA b.chosen.length bk)/\w'.cell? ⟨bb,1,none⟩=some (.slice bB b.enabled.length bl)/\w'.cell? ⟨bb,2,none⟩=some (.slice bC b.last.length bm)/\w'.cell? ⟨bb,3,none⟩=some (.int .i64 b.count.steps)/\w'.cell? ⟨bb,4,none⟩=some (.int .i64 b.count.moves)/\w'.cell? ⟨bb,5,none⟩=some (.int .i64 b.count.rounds)/\w'.cell? ⟨bb,6,none⟩=some (.int .i64 b.count.begun)/\w'.cell? ⟨bb,7,none⟩=some (.int .u32 (b.count.pending:Int))/\bb<w'.heap.size):=fun w' k=>have q:=HXb.out.keep k;⟨q.cell 0 rfl,q.cell 1 rfl,q.cell 2 rfl,q.cell 3 rfl,q.cell 4 rfl,q.cell 5 rfl,q.cell 6 rfl,q.cell 7 rfl,q.lt⟩;obtain ⟨Wb,rfl⟩:∃ V:World,V=wc:=⟨_,rfl⟩;have HVb:Hid (∀ w',Bel Wb w'->aCl w' (.agg #[.slice bA b.chosen.length bk,.slice bB b.enabled.length bl,.slice bC b.last.length bm,.int .i64 b.count.steps,.int .i64 b.count.moves,.int .i64 b.count.rounds,.int .i64 b.count.begun,.int .u32 (b.count.pending:Int)]) b):=fun w' k=>have q:=HMb.out w' k;⟨bA,bk,bB,bl,bC,bm,rfl,q.1,bq2,bq3,q.2.1,bq5,bq6,q.2.2⟩;have HBb:=Bel.refl Wb
  (try clear p0 p1 p2 g0 g1 gsz)
  obtain ⟨p0,p1,p2,g0,g1,gsz⟩:=aAf HW
  (try clear b0 b1 b2 b3 b4 b5 b6 b7 bz)
  obtain ⟨b0,b1,b2,b3,b4,b5,b6,b7,bz⟩:=hcb.out _ HBb
  (try clear t0 t1 t2 t3 t4 t5 t6 t7 tz)
  obtain ⟨t0,t1,t2,t3,t4,t5,t6,t7,tz⟩:=hct.out _ HBt
  (try clear a0 a1 a2 a3 a4 a5 a6 a7 az)
  obtain ⟨a0,a1,a2,a3,a4,a5,a6,a7,az⟩:=hca.out _ HBa;have HWb:=aA0 HW;have HBtb:=aA0 HBt;have HBab:=aA0 HBa
  go_upto_region 10 with fail
  have hS3:=aA0 (fun w' (k:Bel Wb w')=>And.intro (aAf (HWb.out.trans k)) (And.intro (hct.out w' (HBtb.out.trans k)) (And.intro (hca.out w' (HBab.out.trans k)) (hcb.out w' k))));have hqa:(q:Int)+1<=(tl:Int):=by have:=hE.out;omega
  have hqb:q+1<=tl:=by have:=hE.out;omega
  have hqc:0<=(q:Int)+1:=by omega
  have hqw:IntKind.i64.wrap ((q:Int)+1)=(q:Int)+1:=IntWalk.i64_in _ (by omega)
  have hqd:(q:Int)+1<=(T.enabled.length:Int):=by have:=hE.out;omega
  replace HW:=HW.drew;replace HBt:=HBt.drew;replace HBa:=HBa.drew;replace HBb:=HBb.drew
  go_region_held3 (fun w'=>(fun w'=>w'.cell? ⟨w.heap.size,0,none⟩=some (.string p.name)/\w'.cell? ⟨w.heap.size,1,none⟩=some (.slice A1 p.vars.length k1)/\w'.cell? ⟨w.heap.size,2,none⟩=some (.slice A2 p.rules.length k2)/\w'.cell? ⟨w.heap.size+1,0,none⟩=some (.slice A3 g.ids.length k3)/\w'.cell? ⟨w.heap.size+1,1,none⟩=some (.slice A4 g.ports.length k4)/\w.heap.size+1<w'.heap.size) w'/\(w'.cell? ⟨bt,0,none⟩=some (.slice tA T.chosen.length tk)/\w'.cell? ⟨bt,1,none⟩=some (.slice tB T.enabled.length tl)/\w'.cell? ⟨bt,2,none⟩=some (.slice tC T.last.length tm)/\w'.cell? ⟨bt,3,none⟩=some (.int .i64 T.count.steps)/\w'.cell? ⟨bt,4,none⟩=some (.int .i64 T.count.moves)/\w'.cell? ⟨bt,5,none⟩=some (.int .i64 T.count.rounds)/\w'.cell? ⟨bt,6,none⟩=some (.int .i64 T.count.begun)/\w'.cell? ⟨bt,7,none⟩=some (.int .u32 (T.count.pending:Int))/\bt<w'.heap.size)/\(w'.cell? ⟨ba,0,none⟩=some (.slice aA a.chosen.length ak)/\w'.cell? ⟨ba,1,none⟩=some (.slice aB a.enabled.length al)/\w'.cell? ⟨ba,2,none⟩=some (.slice aC a.last.length am)/\w'.cell? ⟨ba,3,none⟩=some (.int .i64 a.count.steps)/\w'.cell? ⟨ba,4,none⟩=some (.int .i64 a.count.moves)/\w'.cell? ⟨ba,5,none⟩=some (.int .i64 a.count.rounds)/\w'.cell? ⟨ba,6,none⟩=some (.int .i64 a.count.begun)/\w'.cell? ⟨ba,7,none⟩=some (.int .u32 (a.count.pending:Int))/\ba<w'.heap.size)/\(w'.cell? ⟨bb,0,none⟩=some (.slice bA b.chosen.length bk)/\w'.cell? ⟨bb,1,none⟩=some (.slice bB b.enabled.length bl)/\w'.cell? ⟨bb,2,none⟩=some (.slice bC b.last.length bm)/\w'.cell? ⟨bb,3,none⟩=some (.int .i64 b.count.steps)/\w'.cell? ⟨bb,4,none⟩=some (.int .i64 b.count.moves)/\w'.cell? ⟨bb,5,none⟩=some (.int .i64 b.count.rounds)/\w'.cell? ⟨bb,6,none⟩=some (.int .i64 b.count.begun)/\w'.cell? ⟨bb,7,none⟩=some (.int .u32 (b.count.pending:Int))/\bb<w'.heap.size)) (exact hS3.out _ HBb) (first
   | (go_simp;go_at_call 12;refine (aBy _ (HMT.out _ (aA1 HW)).2).mono ?_;rintro e w8 ⟨rfl,hb⟩;replace HW:=HW.trans hb;replace HBt:=HBt.trans hb;replace HBa:=HBa.trans hb;replace HBb:=HBb.trans hb;clear hb)
   | (go_simp;go_at_call 20;refine (aGc _ _ b.last T.last _ (HMb.out _ HBb).2.2 (HMt.out _ HBt).2.2 (by have:=(aB4 HTL.out).1;rw [HBL.out];omega) (fun r hr=>by rw [HBL.out] at hr;have:=(aB4 HTL.out).2 r hr;omega)).mono ?_;rintro e w8 ⟨rfl,hb⟩;rw [decide_eq_true HBL.out];replace HW:=HW.trans hb;replace HBt:=HBt.trans hb;replace HBa:=HBa.trans hb;replace HBb:=HBb.trans hb;clear hb)
   | (go_simp;go_at_call 21;with_reducible refine (aDt aB _ a.enabled tB _ _ (HMa.out _ HBa).2.1 (hMk3.out _ HBt) (by rw [NA.out];omega)).mono ?_;rintro e w8 ⟨rfl,hb⟩;replace HW:=HW.trans hb;replace HBt:=HBt.trans hb;replace HBa:=HBa.trans hb;replace HBb:=HBb.trans hb;clear hb)
   | (go_simp;go_at_call 21;with_reducible refine (aDt bB _ b.enabled yB _ _ (HMb.out _ HBb).2.1 (hMk4.out _ HBt) (by rw [NB.out];have:=hE.out;omega)).mono ?_;rintro e w8 ⟨rfl,hb⟩;replace HW:=HW.trans hb;replace HBt:=HBt.trans hb;replace HBa:=HBa.trans hb;replace HBb:=HBb.trans hb;clear hb))
  go_wp2_with fail
  go_ret;exact ⟨rfl,aA1 HW⟩
end Go.Proofs.YtdcjnhoabbdanaaGreatDoor

