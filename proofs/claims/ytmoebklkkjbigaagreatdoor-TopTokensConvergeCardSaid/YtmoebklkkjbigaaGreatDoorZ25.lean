/- Merged. -/
import Derived.Test.YtmoebklkkjbigaaGreatDoorZ24
set_option linter.unusedSimpArgs false
set_option linter.unnecessarySimpa false
set_option linter.unusedVariables false
set_option maxRecDepth 100000
set_option maxHeartbeats 8000000
open Go.Proofs.Tryz

namespace Go.Proofs.YtmoebklkkjbigaaGreatDoor
open Go.RowKit
def aK3:=aAc 1 (aG7 2 bDs)
theorem aK3.keep {w w':World} {A:Option Addr} {n:Nat} {xs:List (List (Nat × Int))} (h:aK3 w A n xs) (k:Bel w w'):aK3 w' A n xs:=aAc.keep (aG7.keeps bDs.keeps) h k
def aBk (w:World) (v:Value) (s:Spc):Prop :=
 ∃ AE cE AA cA,v = .agg #[.slice AE s.enabled.length cE,.slice AA s.arcs.length cA]/\aBw w AE s.enabled.length s.enabled/\aK3 w AA s.arcs.length s.arcs/\s.enabled.length<=cE/\cE<=maxLen/\s.arcs.length<=cA/\cA<=maxLen
theorem aBk.keep {w w':World} {v:Value} {s:Spc} (h:aBk w v s) (k:Bel w w'):aBk w' v s:=by
 obtain ⟨AE,cE,AA,cA,e,h1,h2,h3⟩:=h;exact ⟨AE,cE,AA,cA,e,h1.keep k,h2.keep k,h3⟩
def bBw (r:Spc × Int) (w:World) (e:Ending) (w':World):Prop:=∃ v,e = .returned (.tuple #[v,.int .i64 r.2])/\aBk w' v r.1/\Bel w w'
theorem aBk.empty (w:World):aBk w (.agg #[.slice none 0 0,.slice none 0 0]) ⟨[],[]⟩:=⟨none,0,none,0,rfl,aAc.nil,aAc.nil,Nat.le_refl _,by unfold maxLen;decide,Nat.le_refl _,by unfold maxLen;decide⟩
def aIn (N:Nat) (w:World) (v:Value) (s:Spc):Prop:=∀ w',Agr (fun k=>k<N) w w'->aBk w' v s
theorem aIn.now {N:Nat} {w:World} {v:Value} {s:Spc} (h:aIn N w v s):aBk w v s:=h w (Agr.refl _ _)
theorem aIn.lower {N M:Nat} {w:World} {v:Value} {s:Spc} (h:aIn N w v s) (hM:M<=N):aIn M w v s:=fun w' hA=>h w' (hA.mono fun _ hk=>Nat.lt_of_lt_of_le hk hM)
theorem aIn.agr {N:Nat} {w w':World} {v:Value} {s:Spc} (h:aIn N w v s) (hA:Agr (fun k=>k<N) w w'):aIn N w' v s:=fun w2 h2=>h w2 (hA.trans h2)
theorem aIn.empty (N:Nat) (w:World):aIn N w (.agg #[.slice none 0 0,.slice none 0 0]) ⟨[],[]⟩:=fun w' _=>aBk.empty w'
def aLy (r:Spc × Int) (w:World) (e:Ending) (w':World):Prop:=∃ v,e = .returned (.tuple #[v,.int .i64 r.2])/\aIn w.heap.size w' v r.1/\Bel w w'
theorem aLy.plain {r:Spc × Int} {w:World} {e:Ending} {w':World} (h:aLy r w e w'):bBw r w e w':=by
 obtain ⟨v,h1,h2,h3⟩:=h;exact ⟨v,h1,h2.now,h3⟩
def aK4 (w:World) (N k:Nat) (hs:List Value) (L:Nat->List (Nat × Int)):Prop :=
 ∀ u,u<k->∃ A c,hs[u]?=some (.slice A (L u).length c)/\aLv w A (L u).length (L u)/\(L u).length<=c/\c<=maxLen/\∀ b o,A=some ⟨b,o,none⟩->N<=b
theorem aLv.agr {E:Nat->Prop} {w w':World} {A:Option Addr} {n N:Nat} {xs:List (Nat × Int)} (h:aLv w A n xs) (hA:Agr E w w') (hE:∀ q,E q->q<N) (hN:∀ b o,A=some ⟨b,o,none⟩->N<=b):aLv w' A n xs :=
 ⟨h.1,fun i x hx=>by
  obtain ⟨b,o,e,hb,h1,h2⟩:=h.2 i x hx;have hne:¬ E b:=fun he=>by have:=hE b he;have:=hN b o e;omega
  exact ⟨b,o,e,Nat.lt_of_lt_of_le hb hA.size,(hA.cell hb hne).trans h1,(hA.cell hb hne).trans h2⟩⟩
theorem aK4.agr {E:Nat->Prop} {w w':World} {N k:Nat} {hs:List Value} {L:Nat->List (Nat × Int)} (h:aK4 w N k hs L) (hA:Agr E w w') (hE:∀ q,E q->q<N):aK4 w' N k hs L:=fun u hu=>by
 obtain ⟨A,c,h1,h2,h3,h4,h5⟩:=h u hu;exact ⟨A,c,h1,h2.agr hA hE h5,h3,h4,h5⟩
theorem Agr.bel' {E:Nat->Prop} {A B:World} (h:Bel A B):Agr E A B:=⟨h.os,h.tape,h.output,h.size,fun k hk _=>h.block k hk⟩
theorem aNu {w:World} {x y z:Obj}:(((w.alloc x).alloc y).alloc z).drew.heap[w.heap.size]?=some x :=
 (Below.heap_alloc _ _ _ (by simp;omega)).trans ((Below.heap_alloc _ _ _ (by simp)).trans (aAx w x))
theorem aNv {w:World} {x y z:Obj}:(((w.alloc x).alloc y).alloc z).drew.heap[w.heap.size+1]?=some y:=by
 have:=aAx (w.alloc x) y;rw [World.size_alloc] at this;exact (Below.heap_alloc _ _ _ (by simp)).trans this
theorem aNw {w:World} {x y z:Obj}:(((w.alloc x).alloc y).alloc z).drew.heap[w.heap.size+1+1]?=some z:=by
 have:=aAx ((w.alloc x).alloc y) z;rw [World.size_alloc,World.size_alloc] at this;exact this
theorem aT1 {w:World} {g base n size:Nat} {cs:Array Value} {e:TypeId} (h:Blk w g cs e) (hs:cs.size=n*size) (hb:base<=g) (hm:n<=maxLen):w.ownsRow base e size (.slice (some ⟨g,0,none⟩) n n) n cs.toList :=
 ⟨by simpa using hs,.inr ⟨g,n,cs,rfl,hb,h,Nat.le_refl _,hm,hs,List.take_of_length_le (by rw [Array.length_toList,hs];exact Nat.le_refl _)⟩⟩
theorem bMs {p:Prg} {g:Graph} {n:Int} (h:(n,0)=aD3 p g):aCw p g=0/\n=aDn p g:=by
 unfold aD3 at h;split at h
 .rename_i h1;injection h with _ h2;exact absurd h2.symm h1
 split at h
 .injection h with _ h2;cases h2
 .rename_i h1 _;injection h with h2 _;exact ⟨by simpa using h1,h2⟩
theorem aZp:(prog.info? 93).map (fun i=>(i.zero,i.size,i.bytes))=some (some (.slice none 0 0),1,24):=by kernel_rfl
theorem aCe (v1:Value) (p:Prg) (v2:Value) (g:Graph) (kind:Int) (w:World) (h:aK5 w v1 p) (h2:aB2 w v2 g) (hT:aDl w) (hL:aCc p=true) (hG:aBt g=true) (hfew:(aD3 p g).2=0->aDn p g<=700/\g.ports.length<=5) :
  Calls prog 12 #[v1,v2,.int .i64 kind] w (aLy (aHo p g kind) w):=by
 have HPV:=aA0 (fun w' (k:Bel w w')=>h.keep k);have HGV:=aA0 (fun w' (k:Bel w w')=>h2.keep k);have HT:=aA0 (fun w' (k:Bel w w')=>hT.keep k);obtain ⟨A1,k1,A2,k2,rfl,_,_,_,_,_,_⟩:=h;obtain ⟨A3,k3,A4,k4,rfl,_,_,_,_,_,_⟩:=h2;have HW:=Bel.refl ((w.alloc (.cells #[.string p.name,.slice A1 p.vars.length k1,.slice A2 p.rules.length k2] 31)).alloc (.cells #[.slice A3 g.ids.length k3,.slice A4 g.ports.length k4] 25));have HL:=aA0 hL;have HGL:=aA0 hG;have HFEW:=aA0 hfew;clear hL hG hT hfew;have HF:Hid (aHo p g kind=if (aD3 p g).2≠0/\(aD3 p g).2≠3 then (⟨[],[]⟩,(aD3 p g).2) else if aF1 kind=false then (⟨[],[]⟩,12) else if (aD3 p g).2≠0 then (⟨[],[]⟩,(aD3 p g).2) else (bDl p g kind,0)):=rfl
 obtain ⟨NT,hNT⟩:∃ NT,NT=aD3 p g:=⟨_,rfl⟩;obtain ⟨n0,e0⟩:=NT;rw [<- hNT] at HF HFEW;have HNT:=aA0 hNT;clear hNT;have HX0:Bel w (((w.alloc (.cells #[.string p.name,.slice A1 p.vars.length k1,.slice A2 p.rules.length k2] 31)).alloc (.cells #[.slice A3 g.ids.length k3,.slice A4 g.ports.length k4] 25)).alloc (.cells #[.slice none 0 0,.slice none 0 0] 42)):=(aA2 HW).alloc _
 have HSB:Hid (Blk (((w.alloc (.cells #[.string p.name,.slice A1 p.vars.length k1,.slice A2 p.rules.length k2] 31)).alloc (.cells #[.slice A3 g.ids.length k3,.slice A4 g.ports.length k4] 25)).alloc (.cells #[.slice none 0 0,.slice none 0 0] 42)) (w.heap.size+1+1) #[.slice none 0 0,.slice none 0 0] 42):=by
  have:=Blk.new ((w.alloc (.cells #[.string p.name,.slice A1 p.vars.length k1,.slice A2 p.rules.length k2] 31)).alloc (.cells #[.slice A3 g.ids.length k3,.slice A4 g.ports.length k4] 25)) #[.slice none 0 0,.slice none 0 0] 42;rw [World.size_alloc,World.size_alloc] at this;exact this
 have hend:∀ (k:Int) (wr:World),Bel w wr->aLy (⟨[],[]⟩,k) w (.returned (.tuple #[.agg #[.slice none 0 0,.slice none 0 0],.int .i64 k])) wr:=fun k wr hb=>⟨_,rfl,aIn.empty _ _,hb⟩;have HEND:=aA0 hend;replace HW:=HW.alloc (.cells #[.slice none 0 0,.slice none 0 0] 42);clear hend
 by_cases h1:e0≠0/\e0≠3
 .rw [if_pos h1] at HF
  have d0:(e0 != 0)=true:=by simpa using h1.1
  have d1:(e0 != 3)=true:=by simpa using h1.2
  clear h1;go_enter func12,ntmps12
  go_wp2_with (go_at_call 33;refine (aH4 _ p _ g _ (HPV.out _ (aA2 HW)) (HGV.out _ (aA2 HW)) HL.out HGL.out).mono ?_;rintro e wc ⟨rfl,hb⟩;rw [<- HNT.out];have HX:=HX0.trans hb;have HB:=Blk.keep HSB.out hb;have z0:=HB.cell 0 (v := .slice none 0 0) rfl;have z1:=HB.cell 1 (v := .slice none 0 0) rfl;have f0:=HB.frozen 0;have f1:=HB.frozen 1;have lb:=HB.lt;have HBC:=aA0 HB;clear HB;replace HW:=HW.trans hb;clear hb;(try clear p0 p1 p2 g0 g1 gsz);obtain ⟨p0,p1,p2,g0,g1,gsz⟩:=aDh HW)
  have zz:=(Blk.set (Blk.set HBC.out 0 (.slice none 0 0)) 1 (.slice none 0 0));have y0:=Blk.cell zz 0 (v := .slice none 0 0) (by rfl)
  have y1:=Blk.cell zz 1 (v := .slice none 0 0) (by rfl)
  refine bodyPost_ret (v := .tuple #[.agg #[.slice none 0 0,.slice none 0 0],.int .i64 e0]) (by simp [results,Tryz.results12,go_sem,y0,y1];try go_simp) rfl ?_
  rw [HF.out];exact HEND.out _ _ ((HX.setCell (by simp;omega) _).setCell (by simp;omega) _)
 .rw [if_neg h1] at HF
  have hd0:e0=0∨e0=3:=by omega
  clear h1;cases hk:aF1 kind with
  | false =>
   have HKD:=aA0 hk;rw [hk,if_pos rfl] at HF;clear hk
   rcases hd0 with rfl | rfl
   all_goals
    go_enter func12,ntmps12
    go_wp2_with (first
     | (go_at_call 33;refine (aH4 _ p _ g _ (HPV.out _ (aA2 HW)) (HGV.out _ (aA2 HW)) HL.out HGL.out).mono ?_;rintro e wc ⟨rfl,hb⟩;rw [<- HNT.out];have HX:=HX0.trans hb;have HB:=Blk.keep HSB.out hb;have z0:=HB.cell 0 (v := .slice none 0 0) rfl;have z1:=HB.cell 1 (v := .slice none 0 0) rfl;have f0:=HB.frozen 0;have f1:=HB.frozen 1;have lb:=HB.lt;have HBC:=aA0 HB;clear HB;replace HW:=HW.trans hb;clear hb;(try clear p0 p1 p2 g0 g1 gsz);obtain ⟨p0,p1,p2,g0,g1,gsz⟩:=aDh HW)
     | (go_at_call 34;refine (aCv kind _).mono ?_;rintro e w' ⟨rfl,rfl⟩;rw [HKD.out]))
    have zz:=(Blk.set (Blk.set HBC.out 0 (.slice none 0 0)) 1 (.slice none 0 0));have y0:=Blk.cell zz 0 (v := .slice none 0 0) (by rfl)
    have y1:=Blk.cell zz 1 (v := .slice none 0 0) (by rfl)
    refine bodyPost_ret (v := .tuple #[.agg #[.slice none 0 0,.slice none 0 0],.int .i64 12]) (by simp [results,Tryz.results12,go_sem,y0,y1];try go_simp) rfl ?_
    rw [HF.out];exact HEND.out _ _ ((HX.setCell (by simp;omega) _).setCell (by simp;omega) _)
  | true =>
   have HKD:=aA0 hk;rw [hk,if_neg (by decide)] at HF
   clear hk
   rcases hd0 with rfl | rfl
   .rw [if_neg (by simp)] at HF
    obtain ⟨hs2,h5⟩:=HFEW.out rfl;obtain ⟨hfz,hn0⟩:=bMs HNT.out;have HFZ:=aA0 hfz;have hsp:=bDj hfz;have HSZ:Hid (aDn p g<=32768):=by show _<=_;omega
    obtain ⟨n,hn⟩:=Int.eq_ofNat_of_zero_le (show 0<=aDn p g by omega)
    rw [hn] at hn0 hs2 hsp;have HN:=aA0 hn;subst hn0;clear hfz hn;obtain ⟨i0,hi0,hz0,hz1,hz2⟩:=info_parts aNc;obtain ⟨j0,hj0,hy0,hy1,hy2⟩:=info_parts aZp;obtain ⟨cE,hcE⟩:∃ cE,cE=madeCells (Value.int .u32 0).cells (n*i0.size):=⟨_,rfl⟩;obtain ⟨cA,hcA⟩:∃ cA,cA=madeCells (Value.slice none 0 0).cells (n*j0.size):=⟨_,rfl⟩
    have hmkE:∀ w':World,(Instr.makeSlice 39 (.int .i64 (n:Int)) (.int .i64 (n:Int))).run prog w' = .ok (.slice (some ⟨w'.heap.size,0,none⟩) n n) (w'.alloc (.cells cE 46)):=fun w'=>by
     have:=run_make (P:=prog) w' 39 46 i0 (.int .u32 0) underlying39 hi0 hz0 .i64 .i64 n n (by omega) (Int.le_refl _) (by rw [hz2];omega) (by omega)
     simp only [Int.toNat_natCast] at this
     rw [this,hcE]
    have hmkA:∀ w':World,(Instr.makeSlice 40 (.int .i64 (n:Int)) (.int .i64 (n:Int))).run prog w' = .ok (.slice (some ⟨w'.heap.size,0,none⟩) n n) (w'.alloc (.cells cA 93)):=fun w'=>by
     have:=run_make (P:=prog) w' 40 93 j0 (.slice none 0 0) underlying40 hj0 hy0 .i64 .i64 n n (by omega) (Int.le_refl _) (by rw [hy2];omega) (by omega)
     simp only [Int.toNat_natCast] at this
     rw [this,hcA]
    have HCE:=aA0 hcE;have HCA:=aA0 hcA;clear hcE hcA;go_enter func12,ntmps12
    go_upto_region 9 with (first
     | (go_at_call 33;refine (aH4 _ p _ g _ (HPV.out _ (aA2 HW)) (HGV.out _ (aA2 HW)) HL.out HGL.out).mono ?_;rintro e wc ⟨rfl,hb⟩;rw [<- HNT.out];have HX:=HX0.trans hb;have HB:=Blk.keep HSB.out hb;have z0:=HB.cell 0 (v := .slice none 0 0) rfl;have z1:=HB.cell 1 (v := .slice none 0 0) rfl;have f0:=HB.frozen 0;have f1:=HB.frozen 1;have lb:=HB.lt;have HBC:=aA0 HB;clear HB;replace HW:=HW.trans hb;clear hb;(try clear p0 p1 p2 g0 g1 gsz);obtain ⟨p0,p1,p2,g0,g1,gsz⟩:=aDh HW)
     | (go_at_call 34;refine (aCv kind _).mono ?_;rintro e w' ⟨rfl,rfl⟩;rw [HKD.out])
     | (go_at_call 35;refine (aSe _ p _ g kind _ (HPV.out _ (aA2 HW)) (HGV.out _ (aA2 HW)) HL.out HGL.out HFZ.out HSZ.out).mono ?_;rintro e wB ⟨B,rfl,hBR,hb⟩;have HBR:=aA0 hBR;have HXB:=HX.trans hb;have HBB:=aA0 (HBC.out.keep hb);clear hBR z0 z1 f0 f1 lb;replace HW:=HW.trans hb;clear hb;(try clear p0 p1 p2 g0 g1 gsz);obtain ⟨p0,p1,p2,g0,g1,gsz⟩:=aDh HW))
    go_cut [11] (fun pv wc=>∃ gE gA sB,pv = .pointer (some ⟨sB,0,none⟩)/\Blk wc sB #[.slice (some ⟨gE,0,none⟩) n n,.slice (some ⟨gA,0,none⟩) n n] 42/\Blk wc gE cE 46/\Blk wc gA cA 93/\wB.heap.size<=gE/\wB.heap.size<=gA/\wB.heap.size<=sB/\Bel wB wc)
    case first =>
     go_region
     all_goals go_wp2_with fail
     all_goals go_meet
     all_goals (first | exact ⟨wB.heap.size,wB.heap.size+1,wB.heap.size+1+1,rfl,aNw,aNu,aNv,by omega,by omega,by omega,(((Bel.refl wB).alloc _).alloc _).alloc _ |>.drew⟩ | exact ⟨wB.heap.size,wB.heap.size+1+1,wB.heap.size+1,rfl,aNv,aNu,aNw,by omega,by omega,by omega,(((Bel.refl wB).alloc _).alloc _).alloc _ |>.drew⟩ | exact ⟨wB.heap.size+1,wB.heap.size,wB.heap.size+1+1,rfl,aNw,aNv,aNu,by omega,by omega,by omega,(((Bel.refl wB).alloc _).alloc _).alloc _ |>.drew⟩ | exact ⟨wB.heap.size+1,wB.heap.size+1+1,wB.heap.size,rfl,aNu,aNv,aNw,by omega,by omega,by omega,(((Bel.refl wB).alloc _).alloc _).alloc _ |>.drew⟩ | exact ⟨wB.heap.size+1+1,wB.heap.size,wB.heap.size+1,rfl,aNv,aNw,aNu,by omega,by omega,by omega,(((Bel.refl wB).alloc _).alloc _).alloc _ |>.drew⟩ | exact ⟨wB.heap.size+1+1,wB.heap.size+1,wB.heap.size,rfl,aNu,aNw,aNv,by omega,by omega,by omega,(((Bel.refl wB).alloc _).alloc _).alloc _ |>.drew⟩)
    case rest =>
     obtain ⟨gE,gA,sB,rfl,hS,hE,hA,l1,l2,l3,hbc⟩:=hcut;have HSS:=aA0 (fun w' (k:Bel wc w')=>hS.keep k);have HEB:=aA0 hE;have HAB:=aA0 hA;have HBR2:=aA0 hbc;replace HW:=HW.trans hbc;clear p0 p1 p2 g0 g1 gsz hS hE hA;obtain ⟨p0,p1,p2,g0,g1,gsz⟩:=aDh HW
     go_wp2_with (go_at_call 36;refine (aY5 _ p _ g _ (HPV.out _ (aA2 HW)) (HGV.out _ (aA2 HW)) HL.out HGL.out HFZ.out).mono ?_;rintro e wl ⟨gb,cap,bs,rfl,hR,hb⟩;have HRC:=aA0 hR;have HWL:=aA0 hb;clear hR;replace HW:=HW.trans hb;clear hb;(try clear p0 p1 p2 g0 g1 gsz);obtain ⟨p0,p1,p2,g0,g1,gsz⟩:=aDh HW)
     obtain ⟨T,hTe⟩:∃ T,T=aAb p g:=⟨_,rfl⟩;have HTE:=aA0 hTe;have hg:=(aAt HFZ.out).2.1;have hfp:=aAt HFZ.out;have HTL:Hid (T.length=g.ports.length):=by show _=_;rw [hTe,aAr,hg.ids]
     have HTM:Hid (∀ t∈T,t.length=p.vars.length):=by
      intro t ht
      rw [hTe] at ht;unfold aAb at ht;obtain ⟨v,_,rfl⟩:=List.mem_map.1 ht;simp [aJ3]
     have HTS:Hid (aJw T):=by show aJw T;rw [hTe];exact aIj HFZ.out
     have HOK:Hid (okN T):=HTS.out.ok;have HSN:Hid (aAz T=(n:Int)):=by show _=_;rw [hTe];exact HN.out
     have hv10:=(aBl HL.out).2.1;have hv1:1<=p.vars.length:=(bA1 hfp.1);have hn24:g.ports.length<=24:=hg.le;have hn1:1<=g.ports.length:=hg.pos;have HCK:Hid (∀ k:Nat,k<n->aC4 p g (aAl p g k)=0):=fun k hk=>aDf HFZ.out (by rw [HN.out];omega)
     obtain ⟨bm,AN,kn,AT,kt,AP,kp,hBk,hMV,hNT,hTT,hPL⟩:=HBR.out;have HBK:=aA0 (fun w' (k:Bel wB w')=>hBk.keep k);have HTT:Hid (aFe wB AT T.length T):=by show aFe _ _ _ _;rw [HTL.out,hTe];exact hTT
     clear hBk hMV hNT hTT hPL;have hrl:=HRC.out.row_lt;have hgbb:=aAa HRC.out.own;have hgEc:=HEB.out.lt;have hgAc:=HAB.out.lt;have hSc:=(HSS.out _ (Bel.refl _)).lt;have hwcl:=HWL.out.size
     have hOE:Hid (wl.ownsRow wB.heap.size 46 1 (.slice (some ⟨gE,0,none⟩) n n) n (aCk n 0 (fun u=>aAe p g (aAl p g u)))):=by
      show World.ownsRow _ _ _ _ _ _ _
      rw [aUq];have h1:=aT1 (n:=n) (size:=1) (HEB.out.keep HWL.out) (by rw [HCE.out,size_madeCells,hz1]) l1 (by unfold maxLen;omega)
      rw [HCE.out,hz1,aB3 _ rfl] at h1;exact h1
     have hOA:Hid (wl.ownsRow wB.heap.size 93 1 (.slice (some ⟨gA,0,none⟩) n n) n (List.replicate n (.slice none 0 0))):=by
      show World.ownsRow _ _ _ _ _ _ _
      have h1:=aT1 (n:=n) (size:=1) (HAB.out.keep HWL.out) (by rw [HCA.out,size_madeCells,hy1]) l2 (by unfold maxLen;omega)
      rw [HCA.out,hy1,aB3 _ rfl] at h1;exact h1
     have hneS:gE≠sB/\gA≠sB/\gE≠gA:=by
      have e1:=HEB.out;have e2:=HAB.out;have e3:=HSS.out _ (Bel.refl _);refine ⟨?_,?_,?_⟩
      .rintro rfl;unfold Blk at e1 e3;rw [e1] at e3;injection e3 with e3;injection e3 with _ e3;cases e3
      .rintro rfl;unfold Blk at e2 e3;rw [e2] at e3;injection e3 with e3;injection e3 with _ e3;cases e3
      .rintro rfl;unfold Blk at e1 e2;rw [e1] at e2;injection e2 with e2;injection e2 with _ e2;cases e2
     have HRC0:Hid (0<n->RowsC wl wB.heap.size (some ⟨gb,0,none⟩) cap p.vars.length (aAl p g 0) bs):=fun _=>by
      have h1:=HRC.out.lower (base':=wB.heap.size) HBR2.out.size;have e:aAl p g 0=aDu (aAb p g):=bEc (by rw [<- hTe];exact HOK.out)
      rw [e];exact h1
     have HBL:=aA0 (HBR2.out.trans HWL.out);have HSL:=aA0 (HSS.out _ HWL.out);clear hTe p0 p1 p2 g0 g1 gsz HRC HEB HAB
     go_loopg [14,15,16,17,18,57] n (fun m t _a _b _c _d z wr=>∃ (k tt:Nat) (hs:List Value),k<=n/\m=n-k/\t = .int .i64 (tt:Int)/\tt<=31*k/\z = .int .i64 (k:Int)/\Hid (wr.ownsRow wB.heap.size 46 1 (.slice (some ⟨gE,0,none⟩) n n) n (aCk n k (fun u=>aAe p g (aAl p g u))))/\Hid (wr.ownsRow wB.heap.size 93 1 (.slice (some ⟨gA,0,none⟩) n n) n hs)/\Hid (aK4 wr wl.heap.size k hs (fun u=>aFf p g kind (aAl p g u)))/\Hid (k<n->RowsC wr wB.heap.size (some ⟨gb,0,none⟩) cap p.vars.length (aAl p g k) bs)/\Hid (Blk wr sB #[.slice (some ⟨gE,0,none⟩) n n,.slice (some ⟨gA,0,none⟩) n n] 42)/\Hid (Bel wB wr)/\wl.heap.size<=wr.heap.size)
     case atStart=>exact ⟨0,0,_,by omega,rfl,rfl,by omega,rfl,hOE,hOA,fun u hu=>absurd hu (by omega),HRC0,HSL,HBL,Nat.le_refl _⟩
     case round =>
      clear hOE hOA HRC0 HSL HBL HW;obtain ⟨k,tt,hs,hk,rfl,rfl,htt,rfl,HOE,HOA,HAD,HRC,HSB2,HB,hwl⟩:=hrel
      by_cases hlt:k<n
      .have hd0:decide (k<n)=true:=by simpa using hlt
       have hm:=HCK.out k hlt;have hkn:(k:Int)<aDn p g:=by rw [HN.out];omega
       have hcl:=aBx hm;have HCL:Hid ((aAl p g k).length=g.ports.length):=hcl;have HM:=aA0 hm;have HNK:Hid ((k:Int)=bB0 p g (aAl p g k)):=(bIm HFZ.out hkn).symm;have hal:(aFf p g kind (aAl p g k)).length<=31:=bC5 h5 hcl;have HR:=aA0 (HRC.out hlt)
       have HCV:Hid (aD2 wr (.slice (some ⟨gb,0,none⟩) g.ports.length cap) (aAl p g k)):=by
        have:=HR.out.conf;rw [HCL.out] at this;exact this
       have HTW:=aA0 (HT.out _ (HXB.trans HB.out));clear hm hcl hkn;obtain ⟨La,hLa⟩:∃ La,La=aFf p g kind (aAl p g k):=⟨_,rfl⟩;rw [<- hLa] at hal;have HLA:=aA0 hLa;clear hLa;have ht1:decide ((262144:Int)<(tt:Int)+(La.length:Int))=false:=by simp;omega
       go_upto_region 19 with (go_at_call 37;refine (bE8 B p g kind _ (aAl p g k) k _ (HBR.out.keep HB.out) HCV.out HTW.out HM.out HNK.out HL.out (aNk HM.out HL.out) HSZ.out h5).mono ?_;rw [<- HLA.out];rintro e w1 ⟨RA,ra,rfl,hAR,hra1,hra2,hfr,hb⟩;have HAR:=aA0 hAR;have HFR:=aA0 hfr;have HB1:=aA0 hb;have HS1:=aA0 (HSB2.out.keep hb);have HOE1:=aA0 (hb.owns HOE.out);have HOA1:=aA0 (hb.owns HOA.out);clear hAR hfr hb)
       have yE:=aDy HOE1.out k (by rw [aR3];exact hlt)
       have fE:=HOE1.out.frozenAt k;have hsl:hs.length=n:=by have:=HOA1.out.1;omega
       have yA:=aDy HOA1.out k (by omega)
       have fA:=HOA1.out.frozenAt k;have gEl:=(aAa HOE1.out).2;have gAl:=(aAa HOA1.out).2;have s0:=HS1.out.cell 0 (v := .slice (some ⟨gE,0,none⟩) n n) rfl;have s1:=HS1.out.cell 1 (v := .slice (some ⟨gA,0,none⟩) n n) rfl;have sl:=HS1.out.lt;have hkI:(k:Int)<(n:Int):=by omega
       obtain ⟨ne1,ne2,ne3⟩:=hneS
       go_region
       have HE0:Hid (aCk n (k+1) (fun u=>aAe p g (aAl p g u))=(aCk n k (fun u=>aAe p g (aAl p g u))).set k (.int .u32 (aAe p g (aAl p g k):Int))):=(aY3 n k _).symm;generalize aAe p g (aAl p g k)=Ek at *;have hAg2:Agr (fun q=>q=gE∨q=gA) w1 ((w1.setCell ⟨gE,k,none⟩ (.int .u32 (Ek:Int))).setCell ⟨gA,k,none⟩ (.slice RA La.length ra)):=(Agr.setCell (E:=fun q=>q=gE∨q=gA) w1 ⟨gE,k,none⟩ _ (.inl rfl)).trans (Agr.setCell (E:=fun q=>q=gE∨q=gA) _ ⟨gA,k,none⟩ _ (.inr rfl));have hFA:Fr gA (w1.setCell ⟨gE,k,none⟩ (.int .u32 (Ek:Int))) ((w1.setCell ⟨gE,k,none⟩ (.int .u32 (Ek:Int))).setCell ⟨gA,k,none⟩ (.slice RA La.length ra)):=(Fr.refl gA _).set k _;have hFE:Fr gE w1 (w1.setCell ⟨gE,k,none⟩ (.int .u32 (Ek:Int))):=(Fr.refl gE _).set k _
       have hOE2:((w1.setCell ⟨gE,k,none⟩ (.int .u32 (Ek:Int))).setCell ⟨gA,k,none⟩ (.slice RA La.length ra)).ownsRow wB.heap.size 46 1 (.slice (some ⟨gE,0,none⟩) n n) n (aCk n (k+1) (fun u=>aAe p g (aAl p g u))):=by
        have h1:=(HOE1.out.stored k (.int .u32 (Ek:Int))).1;rw [<- HE0.out] at h1;exact aH8 h1 hFA ne3
       have hOA2:((w1.setCell ⟨gE,k,none⟩ (.int .u32 (Ek:Int))).setCell ⟨gA,k,none⟩ (.slice RA La.length ra)).ownsRow wB.heap.size 93 1 (.slice (some ⟨gA,0,none⟩) n n) n (hs.set k (.slice RA La.length ra)):=(aH8 HOA1.out hFE (Ne.symm ne3)).stored k _ |>.1;have hS2:Blk ((w1.setCell ⟨gE,k,none⟩ (.int .u32 (Ek:Int))).setCell ⟨gA,k,none⟩ (.slice RA La.length ra)) sB #[.slice (some ⟨gE,0,none⟩) n n,.slice (some ⟨gA,0,none⟩) n n] 42:=Blk.other (Blk.other HS1.out (by simp;omega) _) (by simp;omega) _
       have hB2:Bel wB ((w1.setCell ⟨gE,k,none⟩ (.int .u32 (Ek:Int))).setCell ⟨gA,k,none⟩ (.slice RA La.length ra)):=((HB.out.trans HB1.out).setCell (by simpa using l1) _).setCell (by simpa using l2) _
       have hz2:((w1.setCell ⟨gE,k,none⟩ (.int .u32 (Ek:Int))).setCell ⟨gA,k,none⟩ (.slice RA La.length ra)).heap.size=w1.heap.size:=by simp
       have hR2:=(HR.out.keep HB1.out).agr hAg2 (by rintro (h | h) <;> omega) (fun b' hb'=>by have:=hrl b' hb';rintro (h | h) <;> omega)
       have hAD2:=(HAD.out.agr (Agr.bel' (E:=fun _=>False) HB1.out) (fun q h=>h.elim)).agr hAg2 (by rintro q (h | h) <;> omega)
       have hAR2:=HAR.out.agr (N:=wr.heap.size) hAg2 (by rintro q (h | h) <;> omega) (fun b o e=>HFR.out b o e)
       have hws1:=HB1.out.size;clear yE fE yA fA gEl gAl s0 s1 sl hAg2 hFA hFE;generalize (w1.setCell ⟨gE,k,none⟩ (.int .u32 (Ek:Int))).setCell ⟨gA,k,none⟩ (.slice RA La.length ra)=w2 at *;have hADV:=aZo wB AT kt gb cap p.vars.length T (aAl p g k) bs w2.drew HTT.out hB2.drew (hR2.keep (Bel.refl _).drew) (by have:=aR4 HM.out;rwa [<- HTE.out] at this) HTM.out HTS.out (by rw [HTL.out];exact hn24) hv10 (by rw [HTL.out];exact hn1) hv1
       rw [HTL.out,HCL.out] at hADV;have HADV:=aA0 hADV;have HOE2:=aA0 hOE2;have HOA2:=aA0 hOA2;have HS2:=aA0 hS2;have HB2:=aA0 hB2;have HAD2:=aA0 hAD2;have HAR2:=aA0 hAR2;have t3:=(HBK.out _ hB2).cell 3 (v := .slice AT g.ports.length kt) rfl;have tl:=(HBK.out _ hB2).lt;clear hADV hOE2 hOA2 hS2 hB2 hAD2 hAR2 hR2
       go_wp2_with (go_at_call 38;refine HADV.out.mono ?_;rintro e w3 ⟨⟨va,rfl⟩,hC3,hA3⟩)
       have nr:∀ N,N<wc.heap.size->¬ bMx bs N:=fun N hN ⟨b',hb',e⟩=>by have:=(hrl b' hb').1;omega
       have HADk:Hid (aK4 w2 wl.heap.size (k+1) (hs.set k (.slice RA La.length ra)) (fun u=>aFf p g kind (aAl p g u))):=by
        intro u hu
        by_cases huk:u=k
        .subst huk
         rw [List.getElem?_set_self (by omega)]
         have e:=HLA.out;dsimp only;rw [<- e];exact ⟨RA,ra,rfl,HAR2.out,hra1,hra2,fun b o e=>by have:=HFR.out b o e;omega⟩
        .rw [List.getElem?_set_ne (fun e=>huk e.symm)]
         exact HAD2.out u (by omega)
       go_roundg (n-(k+1))
       case rel =>
        refine ⟨k+1,tt+La.length,hs.set k (.slice RA La.length ra),by omega,rfl,by go_num,by omega,by go_num,?_,?_,?_,?_,?_,?_,?_⟩
        .exact aH7 (show w2.drew.ownsRow _ _ _ _ _ _ from HOE2.out) hA3 (nr _ hgEc)
        .exact aH7 (show w2.drew.ownsRow _ _ _ _ _ _ from HOA2.out) hA3 (nr _ hgAc)
        .exact (show aK4 w2.drew _ _ _ _ from HADk.out).agr hA3 (fun q ⟨b',hb',e⟩=>by have:=(hrl b' hb').2;omega)
        .intro hk1
         have e:(aHe T (aAl p g k)).1=aAl p g (k+1):=by
          have:=bGy HOK.out (show (0:Int)<=(k:Int) by omega) (by rw [HSN.out];omega)
          rw [HTE.out] at this;unfold aAl;rw [HTE.out,this];rfl
         rw [<- e];exact hC3
        .exact hA3.blk (show Blk w2.drew _ _ _ from HS2.out) (nr _ hSc)
        .exact Agr.belE (A:=w2.drew) HB2.out.drew hA3 (fun q ⟨b',hb',e⟩=>by have:=(hrl b' hb').1;have:=HBR2.out.size;omega)
        .have:=hA3.size
         have e:w2.drew.heap.size=w2.heap.size:=rfl;omega
       case measure=>omega
      .have hd0:decide (k<n)=false:=by simpa using hlt
       obtain rfl:k=n:=by omega
       have HB9:=aA0 (HBB.out.keep HB.out);have q0:=HB9.out.cell 0 (v := .slice none 0 0) rfl;have q1:=HB9.out.cell 1 (v := .slice none 0 0) rfl;have qf0:=HB9.out.frozen 0;have qf1:=HB9.out.frozen 1;have ql:=HB9.out.lt;have s0:=HSB2.out.cell 0 (v := .slice (some ⟨gE,0,none⟩) k k) rfl;have s1:=HSB2.out.cell 1 (v := .slice (some ⟨gA,0,none⟩) k k) rfl;have sl:=HSB2.out.lt;have hRB:=HBB.out.lt
       go_wp2_with fail
       have zz:=(Blk.set (Blk.set HB9.out 0 (.slice (some ⟨gE,0,none⟩) k k)) 1 (.slice (some ⟨gA,0,none⟩) k k));have y0:=Blk.cell zz 0 (v := .slice (some ⟨gE,0,none⟩) k k) (by rfl)
       have y1:=Blk.cell zz 1 (v := .slice (some ⟨gA,0,none⟩) k k) (by rfl)
       refine bodyPost_ret (v := .tuple #[.agg #[.slice (some ⟨gE,0,none⟩) k k,.slice (some ⟨gA,0,none⟩) k k],.int .i64 0]) (by simp [results,Tryz.results12,go_sem,y0,y1];try go_simp) rfl ?_
       rw [HF.out];refine ⟨_,rfl,fun W hW=>?_,((HXB.trans HB.out).setCell (by simp;omega) _).setCell (by simp;omega) _⟩
       have hag:Agr (fun q=>q=w.heap.size+1+1) wr ((wr.setCell ⟨w.heap.size+1+1,0,none⟩ (.slice (some ⟨gE,0,none⟩) k k)).setCell ⟨w.heap.size+1+1,1,none⟩ (.slice (some ⟨gA,0,none⟩) k k)):=(Agr.setCell (E:=fun q=>q=w.heap.size+1+1) _ _ _ rfl).trans (Agr.setCell (E:=fun q=>q=w.heap.size+1+1) _ _ _ rfl);have hOE9:=aH7 HOE.out hag (by omega)
       have hOA9:=aH7 HOA.out hag (by omega)
       have hAD9:=HAD.out.agr hag (fun q h=>by omega)
       generalize (wr.setCell ⟨w.heap.size+1+1,0,none⟩ (.slice (some ⟨gE,0,none⟩) k k)).setCell ⟨w.heap.size+1+1,1,none⟩ (.slice (some ⟨gA,0,none⟩) k k)=wz at *;have hsb:=HXB.size;have hsc:=HBR2.out.size;replace hOE9:=bB4 hOE9 hW (fun q hq h=>by omega)
       replace hOA9:=bB4 hOA9 hW (fun q hq h=>by omega)
       replace hAD9:=hAD9.agr hW (fun q h=>by omega)
       have hsz:(aDn p g).toNat=k:=by rw [HN.out];simp
       unfold bDl;rw [hsz];refine ⟨some ⟨gE,0,none⟩,k,some ⟨gA,0,none⟩,k,by simp,⟨by simp,fun i x hx=>?_⟩,⟨by simp,fun i x hx=>?_⟩,by simp,by unfold maxLen;omega,by simp,by unfold maxLen;omega⟩
       .have hi:i<k:=by have:=(List.getElem?_eq_some_iff.1 hx).1;simpa using this
        obtain ⟨q,e1,_,q3,q4,_⟩:=aAj hOE9 (bAq (f:=fun u=>aAe p g (aAl p g u)) hi hi);rw [List.getElem?_map,List.getElem?_range hi] at hx;obtain rfl:aAe p g (aAl p g i)=x:=by simpa using hx
        exact ⟨q,0,e1,q3,by unfold aKt;simpa using q4⟩
       .have hi:i<k:=by have:=(List.getElem?_eq_some_iff.1 hx).1;simpa using this
        obtain ⟨A9,c9,e1,e2,e3,e4,_⟩:=hAD9 i hi;obtain ⟨q,e5,_,q3,q4,_⟩:=aAj hOA9 e1;rw [List.getElem?_map,List.getElem?_range hi] at hx;obtain rfl:aFf p g kind (aAl p g i)=x:=by simpa using hx
        exact ⟨q,0,e5,q3,A9,c9,by simpa using q4,e2,e3,e4⟩
   .rw [if_pos (by simp)] at HF
    go_enter func12,ntmps12
    go_wp2_with (first
     | (go_at_call 33;refine (aH4 _ p _ g _ (HPV.out _ (aA2 HW)) (HGV.out _ (aA2 HW)) HL.out HGL.out).mono ?_;rintro e wc ⟨rfl,hb⟩;rw [<- HNT.out];have HX:=HX0.trans hb;have HB:=Blk.keep HSB.out hb;have z0:=HB.cell 0 (v := .slice none 0 0) rfl;have z1:=HB.cell 1 (v := .slice none 0 0) rfl;have f0:=HB.frozen 0;have f1:=HB.frozen 1;have lb:=HB.lt;have HBC:=aA0 HB;clear HB;replace HW:=HW.trans hb;clear hb;(try clear p0 p1 p2 g0 g1 gsz);obtain ⟨p0,p1,p2,g0,g1,gsz⟩:=aDh HW)
     | (go_at_call 34;refine (aCv kind _).mono ?_;rintro e w' ⟨rfl,rfl⟩;rw [HKD.out]))
    have zz:=(Blk.set (Blk.set HBC.out 0 (.slice none 0 0)) 1 (.slice none 0 0));have y0:=Blk.cell zz 0 (v := .slice none 0 0) (by rfl)
    have y1:=Blk.cell zz 1 (v := .slice none 0 0) (by rfl)
    refine bodyPost_ret (v := .tuple #[.agg #[.slice none 0 0,.slice none 0 0],.int .i64 3]) (by simp [results,Tryz.results12,go_sem,y0,y1];try go_simp) rfl ?_
    rw [HF.out];exact HEND.out _ _ ((HX.setCell (by simp;omega) _).setCell (by simp;omega) _)
end Go.Proofs.YtmoebklkkjbigaaGreatDoor

