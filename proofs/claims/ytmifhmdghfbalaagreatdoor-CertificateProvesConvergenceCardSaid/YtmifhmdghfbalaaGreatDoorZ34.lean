/- Merged. -/
import Derived.Test.YtmifhmdghfbalaaGreatDoorZ32
set_option linter.unusedSimpArgs false
set_option linter.unnecessarySimpa false
set_option linter.unusedVariables false
set_option maxRecDepth 100000
set_option maxHeartbeats 8000000
open Go.Proofs.Tryz

namespace Go.Proofs.YtmifhmdghfbalaaGreatDoor
open Go.RowKit
def aLa:=aAh 1 (aIu 2 bCe)
theorem aLa.keep {w w':World} {A:Option Addr} {n:Nat} {xs:List (List (Nat × Int))} (h:aLa w A n xs) (k:Bel w w'):aLa w' A n xs:=aAh.keep (aIu.keeps bCe.keeps) h k
def aCo (w:World) (v:Value) (s:Spc):Prop :=
 ∃ AE cE AA cA,v = .agg #[.slice AE s.enabled.length cE,.slice AA s.arcs.length cA]/\aK2 w AE s.enabled.length s.enabled/\aLa w AA s.arcs.length s.arcs/\s.enabled.length<=cE/\cE<=maxLen/\s.arcs.length<=cA/\cA<=maxLen
theorem aCo.keep {w w':World} {v:Value} {s:Spc} (h:aCo w v s) (k:Bel w w'):aCo w' v s:=by
 obtain ⟨AE,cE,AA,cA,e,h1,h2,h3⟩:=h;exact ⟨AE,cE,AA,cA,e,h1.keep k,h2.keep k,h3⟩
def aPt (r:Spc × Int) (w:World) (e:Ending) (w':World):Prop:=∃ v,e = .returned (.tuple #[v,.int .i64 r.2])/\aCo w' v r.1/\Bel w w'
theorem aCo.empty (w:World):aCo w (.agg #[.slice none 0 0,.slice none 0 0]) ⟨[],[]⟩:=⟨none,0,none,0,rfl,aAh.nil,aAh.nil,Nat.le_refl _,by unfold maxLen;decide,Nat.le_refl _,by unfold maxLen;decide⟩
def aLb (w:World) (N k:Nat) (hs:List Value) (L:Nat->List (Nat × Int)):Prop :=
 ∀ u,u<k->∃ A c,hs[u]?=some (.slice A (L u).length c)/\aMc w A (L u).length (L u)/\(L u).length<=c/\c<=maxLen/\∀ b o,A=some ⟨b,o,none⟩->N<=b
theorem aMc.agr {E:Nat->Prop} {w w':World} {A:Option Addr} {n N:Nat} {xs:List (Nat × Int)} (h:aMc w A n xs) (hA:Agr E w w') (hE:∀ q,E q->q<N) (hN:∀ b o,A=some ⟨b,o,none⟩->N<=b):aMc w' A n xs :=
 ⟨h.1,fun i x hx=>by
  obtain ⟨b,o,e,hb,h1,h2⟩:=h.2 i x hx;have hne:¬ E b:=fun he=>by have:=hE b he;have:=hN b o e;omega
  exact ⟨b,o,e,Nat.lt_of_lt_of_le hb hA.size,(hA.cell hb hne).trans h1,(hA.cell hb hne).trans h2⟩⟩
theorem aLb.agr {E:Nat->Prop} {w w':World} {N k:Nat} {hs:List Value} {L:Nat->List (Nat × Int)} (h:aLb w N k hs L) (hA:Agr E w w') (hE:∀ q,E q->q<N):aLb w' N k hs L:=fun u hu=>by
 obtain ⟨A,c,h1,h2,h3,h4,h5⟩:=h u hu;exact ⟨A,c,h1,h2.agr hA hE h5,h3,h4,h5⟩
theorem Agr.bel' {E:Nat->Prop} {A B:World} (h:Bel A B):Agr E A B:=⟨h.os,h.tape,h.output,h.size,fun k hk _=>h.block k hk⟩
theorem aOd {w:World} {x y z:Obj}:(((w.alloc x).alloc y).alloc z).drew.heap[w.heap.size]?=some x :=
 (Below.heap_alloc _ _ _ (by simp;omega)).trans ((Below.heap_alloc _ _ _ (by simp)).trans (aBr w x))
theorem aOe {w:World} {x y z:Obj}:(((w.alloc x).alloc y).alloc z).drew.heap[w.heap.size+1]?=some y:=by
 have:=aBr (w.alloc x) y;rw [World.size_alloc] at this;exact (Below.heap_alloc _ _ _ (by simp)).trans this
theorem aOf {w:World} {x y z:Obj}:(((w.alloc x).alloc y).alloc z).drew.heap[w.heap.size+1+1]?=some z:=by
 have:=aBr ((w.alloc x).alloc y) z;rw [World.size_alloc,World.size_alloc] at this;exact this
theorem aTz {w:World} {g base n size:Nat} {cs:Array Value} {e:TypeId} (h:Blk w g cs e) (hs:cs.size=n*size) (hb:base<=g) (hm:n<=maxLen):w.ownsRow base e size (.slice (some ⟨g,0,none⟩) n n) n cs.toList :=
 ⟨by simpa using hs,.inr ⟨g,n,cs,rfl,hb,h,Nat.le_refl _,hm,hs,List.take_of_length_le (by rw [Array.length_toList,hs];exact Nat.le_refl _)⟩⟩
theorem aQ5 {p:Prg} {g:Graph} {n:Int} (h:(n,0)=aAs p g):aCf p g=0/\n=aC7 p g:=by
 unfold aAs at h;split at h
 .rename_i h1;injection h with _ h2;exact absurd h2.symm h1
 split at h
 .injection h with _ h2;cases h2
 .rename_i h1 _;injection h with h2 _;exact ⟨by simpa using h1,h2⟩
theorem aZh:(prog.info? 130).map (fun i=>(i.zero,i.size,i.bytes))=some (some (.slice none 0 0),1,24):=by kernel_rfl
theorem aGk (v1:Value) (p:Prg) (v2:Value) (g:Graph) (kind:Int) (w:World) (h:aE0 w v1 p) (h2:aAl w v2 g) (hT:aG1 w) (hL:aAt p=true) (hG:aB3 g=true) (hfew:(aAs p g).2=0->aC7 p g<=200/\g.ports.length<=5) :
  Calls prog 132 #[v1,v2,.int .i64 kind] w (aPt (aBj p g kind) w):=by
 have HPV:=aA1 (fun w' (k:Bel w w')=>h.keep k);have HGV:=aA1 (fun w' (k:Bel w w')=>h2.keep k);have HT:=aA1 (fun w' (k:Bel w w')=>hT.keep k);obtain ⟨A1,k1,A2,k2,rfl,_,_,_,_,_,_⟩:=h;obtain ⟨A3,k3,A4,k4,rfl,_,_,_,_,_,_⟩:=h2;have HW:=Bel.refl ((w.alloc (.cells #[.string p.name,.slice A1 p.vars.length k1,.slice A2 p.rules.length k2] 25)).alloc (.cells #[.slice A3 g.ids.length k3,.slice A4 g.ports.length k4] 29));have HL:=aA1 hL;have HGL:=aA1 hG;have HFEW:=aA1 hfew;clear hL hG hT hfew;have HF:Hid (aBj p g kind=if (aAs p g).2≠0/\(aAs p g).2≠3 then (⟨[],[]⟩,(aAs p g).2) else if aGw kind=false then (⟨[],[]⟩,12) else if (aAs p g).2≠0 then (⟨[],[]⟩,(aAs p g).2) else (aNy p g kind,0)):=rfl
 obtain ⟨NT,hNT⟩:∃ NT,NT=aAs p g:=⟨_,rfl⟩;obtain ⟨n0,e0⟩:=NT;rw [<- hNT] at HF HFEW;have HNT:=aA1 hNT;clear hNT;have HX0:Bel w (((w.alloc (.cells #[.string p.name,.slice A1 p.vars.length k1,.slice A2 p.rules.length k2] 25)).alloc (.cells #[.slice A3 g.ids.length k3,.slice A4 g.ports.length k4] 29)).alloc (.cells #[.slice none 0 0,.slice none 0 0] 70)):=(aA0 HW).alloc _
 have HSB:Hid (Blk (((w.alloc (.cells #[.string p.name,.slice A1 p.vars.length k1,.slice A2 p.rules.length k2] 25)).alloc (.cells #[.slice A3 g.ids.length k3,.slice A4 g.ports.length k4] 29)).alloc (.cells #[.slice none 0 0,.slice none 0 0] 70)) (w.heap.size+1+1) #[.slice none 0 0,.slice none 0 0] 70):=by
  have:=Blk.new ((w.alloc (.cells #[.string p.name,.slice A1 p.vars.length k1,.slice A2 p.rules.length k2] 25)).alloc (.cells #[.slice A3 g.ids.length k3,.slice A4 g.ports.length k4] 29)) #[.slice none 0 0,.slice none 0 0] 70;rw [World.size_alloc,World.size_alloc] at this;exact this
 have hend:∀ (k:Int) (wr:World),Bel w wr->aPt (⟨[],[]⟩,k) w (.returned (.tuple #[.agg #[.slice none 0 0,.slice none 0 0],.int .i64 k])) wr:=fun k wr hb=>⟨_,rfl,aCo.empty _,hb⟩;have HEND:=aA1 hend;replace HW:=HW.alloc (.cells #[.slice none 0 0,.slice none 0 0] 70);clear hend
 by_cases h1:e0≠0/\e0≠3
 .rw [if_pos h1] at HF
  have d0:(e0 != 0)=true:=by simpa using h1.1
  have d1:(e0 != 3)=true:=by simpa using h1.2
  clear h1;go_enter func132,ntmps132
  go_wp2_with (go_at_call 179;refine (aI8 _ p _ g _ (HPV.out _ (aA0 HW)) (HGV.out _ (aA0 HW)) HL.out HGL.out).mono ?_;rintro e wc ⟨rfl,hb⟩;rw [<- HNT.out];have HX:=HX0.trans hb;have HB:=Blk.keep HSB.out hb;have z0:=HB.cell 0 (v := .slice none 0 0) rfl;have z1:=HB.cell 1 (v := .slice none 0 0) rfl;have f0:=HB.frozen 0;have f1:=HB.frozen 1;have lb:=HB.lt;have HBC:=aA1 HB;clear HB;replace HW:=HW.trans hb;clear hb;(try clear p0 p1 p2 g0 g1 gsz);obtain ⟨p0,p1,p2,g0,g1,gsz⟩:=aA6 HW)
  have zz:=(Blk.set (Blk.set HBC.out 0 (.slice none 0 0)) 1 (.slice none 0 0));have y0:=Blk.cell zz 0 (v := .slice none 0 0) (by rfl)
  have y1:=Blk.cell zz 1 (v := .slice none 0 0) (by rfl)
  refine bodyPost_ret (v := .tuple #[.agg #[.slice none 0 0,.slice none 0 0],.int .i64 e0]) (by simp [results,Tryz.results132,go_sem,y0,y1];try go_simp) rfl ?_
  rw [HF.out];exact HEND.out _ _ ((HX.setCell (by simp;omega) _).setCell (by simp;omega) _)
 .rw [if_neg h1] at HF
  have hd0:e0=0∨e0=3:=by omega
  clear h1;cases hk:aGw kind with
  | false =>
   have HKD:=aA1 hk;rw [hk,if_pos rfl] at HF;clear hk
   rcases hd0 with rfl | rfl
   all_goals
    go_enter func132,ntmps132
    go_wp2_with (first
     | (go_at_call 179;refine (aI8 _ p _ g _ (HPV.out _ (aA0 HW)) (HGV.out _ (aA0 HW)) HL.out HGL.out).mono ?_;rintro e wc ⟨rfl,hb⟩;rw [<- HNT.out];have HX:=HX0.trans hb;have HB:=Blk.keep HSB.out hb;have z0:=HB.cell 0 (v := .slice none 0 0) rfl;have z1:=HB.cell 1 (v := .slice none 0 0) rfl;have f0:=HB.frozen 0;have f1:=HB.frozen 1;have lb:=HB.lt;have HBC:=aA1 HB;clear HB;replace HW:=HW.trans hb;clear hb;(try clear p0 p1 p2 g0 g1 gsz);obtain ⟨p0,p1,p2,g0,g1,gsz⟩:=aA6 HW)
     | (go_at_call 114;refine (aHn kind _).mono ?_;rintro e w' ⟨rfl,rfl⟩;rw [HKD.out]))
    have zz:=(Blk.set (Blk.set HBC.out 0 (.slice none 0 0)) 1 (.slice none 0 0));have y0:=Blk.cell zz 0 (v := .slice none 0 0) (by rfl)
    have y1:=Blk.cell zz 1 (v := .slice none 0 0) (by rfl)
    refine bodyPost_ret (v := .tuple #[.agg #[.slice none 0 0,.slice none 0 0],.int .i64 12]) (by simp [results,Tryz.results132,go_sem,y0,y1];try go_simp) rfl ?_
    rw [HF.out];exact HEND.out _ _ ((HX.setCell (by simp;omega) _).setCell (by simp;omega) _)
  | true =>
   have HKD:=aA1 hk;rw [hk,if_neg (by decide)] at HF
   clear hk
   rcases hd0 with rfl | rfl
   .rw [if_neg (by simp)] at HF
    obtain ⟨hs2,h5⟩:=HFEW.out rfl;obtain ⟨hfz,hn0⟩:=aQ5 HNT.out;have HFZ:=aA1 hfz;have hsp:=aNx hfz;have HSZ:Hid (aC7 p g<=32768):=by show _<=_;omega
    obtain ⟨n,hn⟩:=Int.eq_ofNat_of_zero_le (show 0<=aC7 p g by omega)
    rw [hn] at hn0 hs2 hsp;have HN:=aA1 hn;subst hn0;clear hfz hn;obtain ⟨i0,hi0,hz0,hz1,hz2⟩:=info_parts aJz;obtain ⟨j0,hj0,hy0,hy1,hy2⟩:=info_parts aZh;obtain ⟨cE,hcE⟩:∃ cE,cE=madeCells (Value.int .u32 0).cells (n*i0.size):=⟨_,rfl⟩;obtain ⟨cA,hcA⟩:∃ cA,cA=madeCells (Value.slice none 0 0).cells (n*j0.size):=⟨_,rfl⟩
    have hmkE:∀ w':World,(Instr.makeSlice 31 (.int .i64 (n:Int)) (.int .i64 (n:Int))).run prog w' = .ok (.slice (some ⟨w'.heap.size,0,none⟩) n n) (w'.alloc (.cells cE 34)):=fun w'=>by
     have:=run_make (P:=prog) w' 31 34 i0 (.int .u32 0) underlying31 hi0 hz0 .i64 .i64 n n (by omega) (Int.le_refl _) (by rw [hz2];omega) (by omega)
     simp only [Int.toNat_natCast] at this
     rw [this,hcE]
    have hmkA:∀ w':World,(Instr.makeSlice 68 (.int .i64 (n:Int)) (.int .i64 (n:Int))).run prog w' = .ok (.slice (some ⟨w'.heap.size,0,none⟩) n n) (w'.alloc (.cells cA 130)):=fun w'=>by
     have:=run_make (P:=prog) w' 68 130 j0 (.slice none 0 0) underlying68 hj0 hy0 .i64 .i64 n n (by omega) (Int.le_refl _) (by rw [hy2];omega) (by omega)
     simp only [Int.toNat_natCast] at this
     rw [this,hcA]
    have HCE:=aA1 hcE;have HCA:=aA1 hcA;clear hcE hcA;go_enter func132,ntmps132
    go_upto_region 9 with (first
     | (go_at_call 179;refine (aI8 _ p _ g _ (HPV.out _ (aA0 HW)) (HGV.out _ (aA0 HW)) HL.out HGL.out).mono ?_;rintro e wc ⟨rfl,hb⟩;rw [<- HNT.out];have HX:=HX0.trans hb;have HB:=Blk.keep HSB.out hb;have z0:=HB.cell 0 (v := .slice none 0 0) rfl;have z1:=HB.cell 1 (v := .slice none 0 0) rfl;have f0:=HB.frozen 0;have f1:=HB.frozen 1;have lb:=HB.lt;have HBC:=aA1 HB;clear HB;replace HW:=HW.trans hb;clear hb;(try clear p0 p1 p2 g0 g1 gsz);obtain ⟨p0,p1,p2,g0,g1,gsz⟩:=aA6 HW)
     | (go_at_call 114;refine (aHn kind _).mono ?_;rintro e w' ⟨rfl,rfl⟩;rw [HKD.out])
     | (go_at_call 180;refine (aSw _ p _ g kind _ (HPV.out _ (aA0 HW)) (HGV.out _ (aA0 HW)) HL.out HGL.out HFZ.out HSZ.out).mono ?_;rintro e wB ⟨B,rfl,hBR,hb⟩;have HBR:=aA1 hBR;have HXB:=HX.trans hb;have HBB:=aA1 (HBC.out.keep hb);clear hBR z0 z1 f0 f1 lb;replace HW:=HW.trans hb;clear hb;(try clear p0 p1 p2 g0 g1 gsz);obtain ⟨p0,p1,p2,g0,g1,gsz⟩:=aA6 HW))
    go_cut [11] (fun pv wc=>∃ gE gA sB,pv = .pointer (some ⟨sB,0,none⟩)/\Blk wc sB #[.slice (some ⟨gE,0,none⟩) n n,.slice (some ⟨gA,0,none⟩) n n] 70/\Blk wc gE cE 34/\Blk wc gA cA 130/\wB.heap.size<=gE/\wB.heap.size<=gA/\wB.heap.size<=sB/\Bel wB wc)
    case first =>
     go_region
     all_goals go_wp2_with fail
     all_goals go_meet
     all_goals (first | exact ⟨wB.heap.size,wB.heap.size+1,wB.heap.size+1+1,rfl,aOf,aOd,aOe,by omega,by omega,by omega,(((Bel.refl wB).alloc _).alloc _).alloc _ |>.drew⟩ | exact ⟨wB.heap.size,wB.heap.size+1+1,wB.heap.size+1,rfl,aOe,aOd,aOf,by omega,by omega,by omega,(((Bel.refl wB).alloc _).alloc _).alloc _ |>.drew⟩ | exact ⟨wB.heap.size+1,wB.heap.size,wB.heap.size+1+1,rfl,aOf,aOe,aOd,by omega,by omega,by omega,(((Bel.refl wB).alloc _).alloc _).alloc _ |>.drew⟩ | exact ⟨wB.heap.size+1,wB.heap.size+1+1,wB.heap.size,rfl,aOd,aOe,aOf,by omega,by omega,by omega,(((Bel.refl wB).alloc _).alloc _).alloc _ |>.drew⟩ | exact ⟨wB.heap.size+1+1,wB.heap.size,wB.heap.size+1,rfl,aOe,aOf,aOd,by omega,by omega,by omega,(((Bel.refl wB).alloc _).alloc _).alloc _ |>.drew⟩ | exact ⟨wB.heap.size+1+1,wB.heap.size+1,wB.heap.size,rfl,aOd,aOf,aOe,by omega,by omega,by omega,(((Bel.refl wB).alloc _).alloc _).alloc _ |>.drew⟩)
    case rest =>
     obtain ⟨gE,gA,sB,rfl,hS,hE,hA,l1,l2,l3,hbc⟩:=hcut;have HSS:=aA1 (fun w' (k:Bel wc w')=>hS.keep k);have HEB:=aA1 hE;have HAB:=aA1 hA;have HBR2:=aA1 hbc;replace HW:=HW.trans hbc;clear p0 p1 p2 g0 g1 gsz hS hE hA;obtain ⟨p0,p1,p2,g0,g1,gsz⟩:=aA6 HW
     go_wp2_with (go_at_call 181;refine (aPa _ p _ g _ (HPV.out _ (aA0 HW)) (HGV.out _ (aA0 HW)) HL.out HGL.out HFZ.out).mono ?_;rintro e wl ⟨gb,cap,bs,rfl,hR,hb⟩;have HRC:=aA1 hR;have HWL:=aA1 hb;clear hR;replace HW:=HW.trans hb;clear hb;(try clear p0 p1 p2 g0 g1 gsz);obtain ⟨p0,p1,p2,g0,g1,gsz⟩:=aA6 HW)
     obtain ⟨T,hTe⟩:∃ T,T=aAa p g:=⟨_,rfl⟩;have HTE:=aA1 hTe;have hg:=(aAe HFZ.out).2.1;have hfp:=aAe HFZ.out;have HTL:Hid (T.length=g.ports.length):=by show _=_;rw [hTe,aAj,hg.ids]
     have HTM:Hid (∀ t∈T,t.length=p.vars.length):=by
      intro t ht
      rw [hTe] at ht;unfold aAa at ht;obtain ⟨v,_,rfl⟩:=List.mem_map.1 ht;simp [aEp]
     have HTS:Hid (aK9 T):=by show aK9 T;rw [hTe];exact aEd HFZ.out
     have HOK:Hid (okN T):=HTS.out.ok;have HSN:Hid (aAq T=(n:Int)):=by show _=_;rw [hTe];exact HN.out
     have hv10:=(aAi HL.out).2.1;have hv1:1<=p.vars.length:=(aHl hfp.1);have hn24:g.ports.length<=24:=hg.le;have hn1:1<=g.ports.length:=hg.pos;have HCK:Hid (∀ k:Nat,k<n->aCp p g (aBp p g k)=0):=fun k hk=>aEr HFZ.out (by rw [HN.out];omega)
     obtain ⟨bm,AN,kn,AT,kt,AP,kp,hBk,hMV,hNT,hTT,hPL⟩:=HBR.out;have HBK:=aA1 (fun w' (k:Bel wB w')=>hBk.keep k);have HTT:Hid (aEn wB AT T.length T):=by show aEn _ _ _ _;rw [HTL.out,hTe];exact hTT
     clear hBk hMV hNT hTT hPL;have hrl:=HRC.out.row_lt;have hgbb:=aAf HRC.out.own;have hgEc:=HEB.out.lt;have hgAc:=HAB.out.lt;have hSc:=(HSS.out _ (Bel.refl _)).lt;have hwcl:=HWL.out.size
     have hOE:Hid (wl.ownsRow wB.heap.size 34 1 (.slice (some ⟨gE,0,none⟩) n n) n (aCz n 0 (fun u=>aCm p g (aBp p g u)))):=by
      show World.ownsRow _ _ _ _ _ _ _
      rw [aVg];have h1:=aTz (n:=n) (size:=1) (HEB.out.keep HWL.out) (by rw [HCE.out,size_madeCells,hz1]) l1 (by unfold maxLen;omega)
      rw [HCE.out,hz1,aEj _ rfl] at h1;exact h1
     have hOA:Hid (wl.ownsRow wB.heap.size 130 1 (.slice (some ⟨gA,0,none⟩) n n) n (List.replicate n (.slice none 0 0))):=by
      show World.ownsRow _ _ _ _ _ _ _
      have h1:=aTz (n:=n) (size:=1) (HAB.out.keep HWL.out) (by rw [HCA.out,size_madeCells,hy1]) l2 (by unfold maxLen;omega)
      rw [HCA.out,hy1,aEj _ rfl] at h1;exact h1
     have hneS:gE≠sB/\gA≠sB/\gE≠gA:=by
      have e1:=HEB.out;have e2:=HAB.out;have e3:=HSS.out _ (Bel.refl _);refine ⟨?_,?_,?_⟩
      .rintro rfl;unfold Blk at e1 e3;rw [e1] at e3;injection e3 with e3;injection e3 with _ e3;cases e3
      .rintro rfl;unfold Blk at e2 e3;rw [e2] at e3;injection e3 with e3;injection e3 with _ e3;cases e3
      .rintro rfl;unfold Blk at e1 e2;rw [e1] at e2;injection e2 with e2;injection e2 with _ e2;cases e2
     have HRC0:Hid (0<n->RowsC wl wB.heap.size (some ⟨gb,0,none⟩) cap p.vars.length (aBp p g 0) bs):=fun _=>by
      have h1:=HRC.out.lower (base':=wB.heap.size) HBR2.out.size;have e:aBp p g 0=aC3 (aAa p g):=aTj (by rw [<- hTe];exact HOK.out)
      rw [e];exact h1
     have HBL:=aA1 (HBR2.out.trans HWL.out);have HSL:=aA1 (HSS.out _ HWL.out);clear hTe p0 p1 p2 g0 g1 gsz HRC HEB HAB
     go_loopg [14,15,16,17,18,57] n (fun m t _a _b _c _d z wr=>∃ (k tt:Nat) (hs:List Value),k<=n/\m=n-k/\t = .int .i64 (tt:Int)/\tt<=31*k/\z = .int .i64 (k:Int)/\Hid (wr.ownsRow wB.heap.size 34 1 (.slice (some ⟨gE,0,none⟩) n n) n (aCz n k (fun u=>aCm p g (aBp p g u))))/\Hid (wr.ownsRow wB.heap.size 130 1 (.slice (some ⟨gA,0,none⟩) n n) n hs)/\Hid (aLb wr wl.heap.size k hs (fun u=>aEq p g kind (aBp p g u)))/\Hid (k<n->RowsC wr wB.heap.size (some ⟨gb,0,none⟩) cap p.vars.length (aBp p g k) bs)/\Hid (Blk wr sB #[.slice (some ⟨gE,0,none⟩) n n,.slice (some ⟨gA,0,none⟩) n n] 70)/\Hid (Bel wB wr)/\wl.heap.size<=wr.heap.size)
     case atStart=>exact ⟨0,0,_,by omega,rfl,rfl,by omega,rfl,hOE,hOA,fun u hu=>absurd hu (by omega),HRC0,HSL,HBL,Nat.le_refl _⟩
     case round =>
      clear hOE hOA HRC0 HSL HBL HW;obtain ⟨k,tt,hs,hk,rfl,rfl,htt,rfl,HOE,HOA,HAD,HRC,HSB2,HB,hwl⟩:=hrel
      by_cases hlt:k<n
      .have hd0:decide (k<n)=true:=by simpa using hlt
       have hm:=HCK.out k hlt;have hkn:(k:Int)<aC7 p g:=by rw [HN.out];omega
       have hcl:=aCa hm;have HCL:Hid ((aBp p g k).length=g.ports.length):=hcl;have HM:=aA1 hm;have HNK:Hid ((k:Int)=aVo p g (aBp p g k)):=(bGi HFZ.out hkn).symm;have hal:(aEq p g kind (aBp p g k)).length<=31:=bBe h5 hcl;have HR:=aA1 (HRC.out hlt)
       have HCV:Hid (aDf wr (.slice (some ⟨gb,0,none⟩) g.ports.length cap) (aBp p g k)):=by
        have:=HR.out.conf;rw [HCL.out] at this;exact this
       have HTW:=aA1 (HT.out _ (HXB.trans HB.out));clear hm hcl hkn;obtain ⟨La,hLa⟩:∃ La,La=aEq p g kind (aBp p g k):=⟨_,rfl⟩;rw [<- hLa] at hal;have HLA:=aA1 hLa;clear hLa;have ht1:decide ((262144:Int)<(tt:Int)+(La.length:Int))=false:=by simp;omega
       go_upto_region 19 with (go_at_call 182;refine (bCv B p g kind _ (aBp p g k) k _ (HBR.out.keep HB.out) HCV.out HTW.out HM.out HNK.out HL.out (aOa HM.out HL.out) HSZ.out h5).mono ?_;rw [<- HLA.out];rintro e w1 ⟨RA,ra,rfl,hAR,hra1,hra2,hfr,hb⟩;have HAR:=aA1 hAR;have HFR:=aA1 hfr;have HB1:=aA1 hb;have HS1:=aA1 (HSB2.out.keep hb);have HOE1:=aA1 (hb.owns HOE.out);have HOA1:=aA1 (hb.owns HOA.out);clear hAR hfr hb)
       have yE:=aC8 HOE1.out k (by rw [aRi];exact hlt)
       have fE:=HOE1.out.frozenAt k;have hsl:hs.length=n:=by have:=HOA1.out.1;omega
       have yA:=aC8 HOA1.out k (by omega)
       have fA:=HOA1.out.frozenAt k;have gEl:=(aAf HOE1.out).2;have gAl:=(aAf HOA1.out).2;have s0:=HS1.out.cell 0 (v := .slice (some ⟨gE,0,none⟩) n n) rfl;have s1:=HS1.out.cell 1 (v := .slice (some ⟨gA,0,none⟩) n n) rfl;have sl:=HS1.out.lt;have hkI:(k:Int)<(n:Int):=by omega
       obtain ⟨ne1,ne2,ne3⟩:=hneS
       go_region
       have HE0:Hid (aCz n (k+1) (fun u=>aCm p g (aBp p g u))=(aCz n k (fun u=>aCm p g (aBp p g u))).set k (.int .u32 (aCm p g (aBp p g k):Int))):=(aXv n k _).symm;generalize aCm p g (aBp p g k)=Ek at *;have hAg2:Agr (fun q=>q=gE∨q=gA) w1 ((w1.setCell ⟨gE,k,none⟩ (.int .u32 (Ek:Int))).setCell ⟨gA,k,none⟩ (.slice RA La.length ra)):=(Agr.setCell (E:=fun q=>q=gE∨q=gA) w1 ⟨gE,k,none⟩ _ (.inl rfl)).trans (Agr.setCell (E:=fun q=>q=gE∨q=gA) _ ⟨gA,k,none⟩ _ (.inr rfl));have hFA:Fr gA (w1.setCell ⟨gE,k,none⟩ (.int .u32 (Ek:Int))) ((w1.setCell ⟨gE,k,none⟩ (.int .u32 (Ek:Int))).setCell ⟨gA,k,none⟩ (.slice RA La.length ra)):=(Fr.refl gA _).set k _;have hFE:Fr gE w1 (w1.setCell ⟨gE,k,none⟩ (.int .u32 (Ek:Int))):=(Fr.refl gE _).set k _
       have hOE2:((w1.setCell ⟨gE,k,none⟩ (.int .u32 (Ek:Int))).setCell ⟨gA,k,none⟩ (.slice RA La.length ra)).ownsRow wB.heap.size 34 1 (.slice (some ⟨gE,0,none⟩) n n) n (aCz n (k+1) (fun u=>aCm p g (aBp p g u))):=by
        have h1:=(HOE1.out.stored k (.int .u32 (Ek:Int))).1;rw [<- HE0.out] at h1;exact aIb h1 hFA ne3
       have hOA2:((w1.setCell ⟨gE,k,none⟩ (.int .u32 (Ek:Int))).setCell ⟨gA,k,none⟩ (.slice RA La.length ra)).ownsRow wB.heap.size 130 1 (.slice (some ⟨gA,0,none⟩) n n) n (hs.set k (.slice RA La.length ra)):=(aIb HOA1.out hFE (Ne.symm ne3)).stored k _ |>.1;have hS2:Blk ((w1.setCell ⟨gE,k,none⟩ (.int .u32 (Ek:Int))).setCell ⟨gA,k,none⟩ (.slice RA La.length ra)) sB #[.slice (some ⟨gE,0,none⟩) n n,.slice (some ⟨gA,0,none⟩) n n] 70:=Blk.other (Blk.other HS1.out (by simp;omega) _) (by simp;omega) _
       have hB2:Bel wB ((w1.setCell ⟨gE,k,none⟩ (.int .u32 (Ek:Int))).setCell ⟨gA,k,none⟩ (.slice RA La.length ra)):=((HB.out.trans HB1.out).setCell (by simpa using l1) _).setCell (by simpa using l2) _
       have hz2:((w1.setCell ⟨gE,k,none⟩ (.int .u32 (Ek:Int))).setCell ⟨gA,k,none⟩ (.slice RA La.length ra)).heap.size=w1.heap.size:=by simp
       have hR2:=(HR.out.keep HB1.out).agr hAg2 (by rintro (h | h) <;> omega) (fun b' hb'=>by have:=hrl b' hb';rintro (h | h) <;> omega)
       have hAD2:=(HAD.out.agr (Agr.bel' (E:=fun _=>False) HB1.out) (fun q h=>h.elim)).agr hAg2 (by rintro q (h | h) <;> omega)
       have hAR2:=HAR.out.agr (N:=wr.heap.size) hAg2 (by rintro q (h | h) <;> omega) (fun b o e=>HFR.out b o e)
       have hws1:=HB1.out.size;clear yE fE yA fA gEl gAl s0 s1 sl hAg2 hFA hFE;generalize (w1.setCell ⟨gE,k,none⟩ (.int .u32 (Ek:Int))).setCell ⟨gA,k,none⟩ (.slice RA La.length ra)=w2 at *;have hADV:=aQe wB AT kt gb cap p.vars.length T (aBp p g k) bs w2.drew HTT.out hB2.drew (hR2.keep (Bel.refl _).drew) (by have:=aNf HM.out;rwa [<- HTE.out] at this) HTM.out HTS.out (by rw [HTL.out];exact hn24) hv10 (by rw [HTL.out];exact hn1) hv1
       rw [HTL.out,HCL.out] at hADV;have HADV:=aA1 hADV;have HOE2:=aA1 hOE2;have HOA2:=aA1 hOA2;have HS2:=aA1 hS2;have HB2:=aA1 hB2;have HAD2:=aA1 hAD2;have HAR2:=aA1 hAR2;have t3:=(HBK.out _ hB2).cell 3 (v := .slice AT g.ports.length kt) rfl;have tl:=(HBK.out _ hB2).lt;clear hADV hOE2 hOA2 hS2 hB2 hAD2 hAR2 hR2
       go_wp2_with (go_at_call 183;refine HADV.out.mono ?_;rintro e w3 ⟨⟨va,rfl⟩,hC3,hA3⟩)
       have nr:∀ N,N<wc.heap.size->¬ aZe bs N:=fun N hN ⟨b',hb',e⟩=>by have:=(hrl b' hb').1;omega
       have HADk:Hid (aLb w2 wl.heap.size (k+1) (hs.set k (.slice RA La.length ra)) (fun u=>aEq p g kind (aBp p g u))):=by
        intro u hu
        by_cases huk:u=k
        .subst huk
         rw [List.getElem?_set_self (by omega)]
         have e:=HLA.out;dsimp only;rw [<- e];exact ⟨RA,ra,rfl,HAR2.out,hra1,hra2,fun b o e=>by have:=HFR.out b o e;omega⟩
        .rw [List.getElem?_set_ne (fun e=>huk e.symm)]
         exact HAD2.out u (by omega)
       go_roundg (n-(k+1))
       case rel =>
        refine ⟨k+1,tt+La.length,hs.set k (.slice RA La.length ra),by omega,rfl,by go_num,by omega,by go_num,?_,?_,?_,?_,?_,?_,?_⟩
        .exact aGi (show w2.drew.ownsRow _ _ _ _ _ _ from HOE2.out) hA3 (nr _ hgEc)
        .exact aGi (show w2.drew.ownsRow _ _ _ _ _ _ from HOA2.out) hA3 (nr _ hgAc)
        .exact (show aLb w2.drew _ _ _ _ from HADk.out).agr hA3 (fun q ⟨b',hb',e⟩=>by have:=(hrl b' hb').2;omega)
        .intro hk1
         have e:(aI3 T (aBp p g k)).1=aBp p g (k+1):=by
          have:=aWe HOK.out (show (0:Int)<=(k:Int) by omega) (by rw [HSN.out];omega)
          rw [HTE.out] at this;unfold aBp;rw [HTE.out,this];rfl
         rw [<- e];exact hC3
        .exact hA3.blk (show Blk w2.drew _ _ _ from HS2.out) (nr _ hSc)
        .exact Agr.belE (A:=w2.drew) HB2.out.drew hA3 (fun q ⟨b',hb',e⟩=>by have:=(hrl b' hb').1;have:=HBR2.out.size;omega)
        .have:=hA3.size
         have e:w2.drew.heap.size=w2.heap.size:=rfl;omega
       case measure=>omega
      .have hd0:decide (k<n)=false:=by simpa using hlt
       obtain rfl:k=n:=by omega
       have HB9:=aA1 (HBB.out.keep HB.out);have q0:=HB9.out.cell 0 (v := .slice none 0 0) rfl;have q1:=HB9.out.cell 1 (v := .slice none 0 0) rfl;have qf0:=HB9.out.frozen 0;have qf1:=HB9.out.frozen 1;have ql:=HB9.out.lt;have s0:=HSB2.out.cell 0 (v := .slice (some ⟨gE,0,none⟩) k k) rfl;have s1:=HSB2.out.cell 1 (v := .slice (some ⟨gA,0,none⟩) k k) rfl;have sl:=HSB2.out.lt;have hRB:=HBB.out.lt
       go_wp2_with fail
       have zz:=(Blk.set (Blk.set HB9.out 0 (.slice (some ⟨gE,0,none⟩) k k)) 1 (.slice (some ⟨gA,0,none⟩) k k));have y0:=Blk.cell zz 0 (v := .slice (some ⟨gE,0,none⟩) k k) (by rfl)
       have y1:=Blk.cell zz 1 (v := .slice (some ⟨gA,0,none⟩) k k) (by rfl)
       refine bodyPost_ret (v := .tuple #[.agg #[.slice (some ⟨gE,0,none⟩) k k,.slice (some ⟨gA,0,none⟩) k k],.int .i64 0]) (by simp [results,Tryz.results132,go_sem,y0,y1];try go_simp) rfl ?_
       rw [HF.out];refine ⟨_,rfl,?_,((HXB.trans HB.out).setCell (by simp;omega) _).setCell (by simp;omega) _⟩
       have hag:Agr (fun q=>q=w.heap.size+1+1) wr ((wr.setCell ⟨w.heap.size+1+1,0,none⟩ (.slice (some ⟨gE,0,none⟩) k k)).setCell ⟨w.heap.size+1+1,1,none⟩ (.slice (some ⟨gA,0,none⟩) k k)):=(Agr.setCell (E:=fun q=>q=w.heap.size+1+1) _ _ _ rfl).trans (Agr.setCell (E:=fun q=>q=w.heap.size+1+1) _ _ _ rfl);have hOE9:=aGi HOE.out hag (by omega)
       have hOA9:=aGi HOA.out hag (by omega)
       have hAD9:=HAD.out.agr hag (fun q h=>by omega)
       generalize (wr.setCell ⟨w.heap.size+1+1,0,none⟩ (.slice (some ⟨gE,0,none⟩) k k)).setCell ⟨w.heap.size+1+1,1,none⟩ (.slice (some ⟨gA,0,none⟩) k k)=wz at *;have hsz:(aC7 p g).toNat=k:=by rw [HN.out];simp
       unfold aNy;rw [hsz];refine ⟨some ⟨gE,0,none⟩,k,some ⟨gA,0,none⟩,k,by simp,⟨by simp,fun i x hx=>?_⟩,⟨by simp,fun i x hx=>?_⟩,by simp,by unfold maxLen;omega,by simp,by unfold maxLen;omega⟩
       .have hi:i<k:=by have:=(List.getElem?_eq_some_iff.1 hx).1;simpa using this
        obtain ⟨q,e1,_,q3,q4,_⟩:=aBv hOE9 (bAe (f:=fun u=>aCm p g (aBp p g u)) hi hi);rw [List.getElem?_map,List.getElem?_range hi] at hx;obtain rfl:aCm p g (aBp p g i)=x:=by simpa using hx
        exact ⟨q,0,e1,q3,by unfold aOx;simpa using q4⟩
       .have hi:i<k:=by have:=(List.getElem?_eq_some_iff.1 hx).1;simpa using this
        obtain ⟨A9,c9,e1,e2,e3,e4,_⟩:=hAD9 i hi;obtain ⟨q,e5,_,q3,q4,_⟩:=aBv hOA9 e1;rw [List.getElem?_map,List.getElem?_range hi] at hx;obtain rfl:aEq p g kind (aBp p g i)=x:=by simpa using hx
        exact ⟨q,0,e5,q3,A9,c9,by simpa using q4,e2,e3,e4⟩
   .rw [if_pos (by simp)] at HF
    go_enter func132,ntmps132
    go_wp2_with (first
     | (go_at_call 179;refine (aI8 _ p _ g _ (HPV.out _ (aA0 HW)) (HGV.out _ (aA0 HW)) HL.out HGL.out).mono ?_;rintro e wc ⟨rfl,hb⟩;rw [<- HNT.out];have HX:=HX0.trans hb;have HB:=Blk.keep HSB.out hb;have z0:=HB.cell 0 (v := .slice none 0 0) rfl;have z1:=HB.cell 1 (v := .slice none 0 0) rfl;have f0:=HB.frozen 0;have f1:=HB.frozen 1;have lb:=HB.lt;have HBC:=aA1 HB;clear HB;replace HW:=HW.trans hb;clear hb;(try clear p0 p1 p2 g0 g1 gsz);obtain ⟨p0,p1,p2,g0,g1,gsz⟩:=aA6 HW)
     | (go_at_call 114;refine (aHn kind _).mono ?_;rintro e w' ⟨rfl,rfl⟩;rw [HKD.out]))
    have zz:=(Blk.set (Blk.set HBC.out 0 (.slice none 0 0)) 1 (.slice none 0 0));have y0:=Blk.cell zz 0 (v := .slice none 0 0) (by rfl)
    have y1:=Blk.cell zz 1 (v := .slice none 0 0) (by rfl)
    refine bodyPost_ret (v := .tuple #[.agg #[.slice none 0 0,.slice none 0 0],.int .i64 3]) (by simp [results,Tryz.results132,go_sem,y0,y1];try go_simp) rfl ?_
    rw [HF.out];exact HEND.out _ _ ((HX.setCell (by simp;omega) _).setCell (by simp;omega) _)
end Go.Proofs.YtmifhmdghfbalaaGreatDoor

