/- Merged. -/
import Derived.Test.YtdcjnhoabbdanaaGreatDoorZ38
set_option linter.unusedSimpArgs false
set_option linter.unnecessarySimpa false
set_option linter.unusedVariables false
set_option maxRecDepth 100000
set_option maxHeartbeats 16000000
open Go.Proofs.Tryz

namespace Go.Proofs.YtdcjnhoabbdanaaGreatDoor
open Go.RowKit
theorem aBc {w:World} {A:Option Addr} {l:List Nat} (h:aAd w A l.length l):aM9 w 1 A l.length (l.map aBk):=by
 refine ⟨by simp,fun j u hu=>?_⟩
 rw [List.getElem?_map] at hu;cases hx:l[j]? with
 | none=>rw [hx] at hu;cases hu
 | some x =>
  rw [hx] at hu;obtain rfl:aBk x=u:=by simpa using hu
  obtain ⟨b,o,e,_,hc⟩:=h.2 j x hx;exact ⟨b,o,e,by rw [Nat.mul_one] at hc;exact hc⟩
theorem aAu (l:List Nat):∀ u∈l.map aBk,u.oneCell'=true:=by
 intro u hu
 obtain ⟨x,_,rfl⟩:=List.mem_map.1 hu;rfl
theorem aBp (S:Nat):∀ u∈(#[Value.int .u32 (S:Int)]:Array Value).toList,u.oneCell'=true:=by simp [Value.oneCell']
theorem aOt {w W:World} {N base e c:Nat} {A:Option Addr} {xs:List Nat} (h:w.ownsRow base e 1 (.slice A xs.length c) xs.length (xs.map aBk)) (hN:N<=base) (k:aAv N w W):aAd W A xs.length xs:=by
 refine ⟨rfl,fun i x hx=>?_⟩
 obtain ⟨g,e1,e2,e3,e4,_⟩:=aCn h (j:=i) (u:=aBk x) (by rw [List.getElem?_map,hx];rfl)
 exact ⟨g,0,e1,Nat.lt_of_lt_of_le e3 k.1,by rw [Nat.mul_one,Nat.zero_add];exact (k.cell (by omega) e3).trans e4⟩
theorem aC2 {w:World} {base e n c:Nat} {A:Option Addr} {xs:List Nat} {S:Nat} (hn:n=xs.length) (h:w.ownsRow base e 1 (.slice A (n+1) c) (n+1) (xs.map aBk++(#[Value.int .u32 (S:Int)]:Array Value).toList)):w.ownsRow base e 1 (.slice A (xs++[S]).length c) (xs++[S]).length ((xs++[S]).map aBk):=by
 subst hn;rw [List.length_append,List.length_singleton,List.map_append];exact h
theorem aA8 {w:World} {base e size n c:Nat} {A:Option Addr} {xs:List Value} (h:w.ownsRow base e size (.slice A n c) n xs):∀ k,some k=(Value.slice A n c).ownBlock->base<=k/\k<w.heap.size:=fun k hk=>by
 rcases h.2 with ⟨hv,_⟩ | ⟨g,cap,cur,hv,hb,hg,_⟩
 .rw [hv] at hk;cases hk
 .rw [hv] at hk
  have hk':k=g:=by simpa [Value.ownBlock] using hk
  subst hk'
  have hlt:k<w.heap.size:=by
   rcases Nat.lt_or_ge k w.heap.size with h' | h'
   .exact h'
   .rw [Array.getElem?_eq_none h'] at hg;cases hg
  exact ⟨hb,hlt⟩
theorem Blk.grow {w w':World} {g:Nat} {cs:Array Value} {t:TypeId} {row:Option Nat} (h:Blk w g cs t) (hg:w.grownBy w' row) (hn:∀ k,some k=row->k≠g):Blk w' g cs t :=
 (hg.block g h.lt fun e=>hn g e rfl).trans h
theorem aJn (v1:Value) (p:Prg) (v2:Value) (g:Graph) (v4:Value) (t:Trc) (S:Nat) (w:World) (h:aEm w v1 p) (h2:aAn w v2 g) (h4:aB5 w v4 t) (hL:aAw p=true) (hG:aB3 g=true) (ht:OkT p g t) (hn:t.chosen.length<=119) (h0:S≠0) (hwi:aBn S (aAj p g t.last)=true) (hS:S<16777216) (hm2:aCv p g (aBe p g t.last S)=0) :
  Calls prog 41 #[v1,v2,v4,.int .u32 (S:Int)] w fun e w'=>∃ vt,e = .returned vt/\(∀ W,aAv w.heap.size w' W->aB5 W vt (aAm p g t S))/\Bel w w':=by
 have HPV:=aA0 (fun w' (k:Bel w w')=>h.keep k);have HGV:=aA0 (fun w' (k:Bel w w')=>h2.keep k);obtain ⟨A1,k1,A2,k2,rfl,_,_,_,_,_,_⟩:=h;obtain ⟨A3,k3,A4,k4,rfl,_,_,_,_,_,_⟩:=h2;obtain ⟨A7,k7,A8,k8,A9,k9,rfl,q1,_,_,q4,_,_,q7⟩:=h4;have HM7:=aA0 (fun w' (k:Bel w w')=>And.intro (aAd.keep q1 k) (aAd.keep q4 k));have HCV:=aA0 (fun w' (k:Bel w w')=>q7.keep k);have HL:=aA0 hL;have HGL:=aA0 hG;have HM:=aA0 ht.mem;have HM2:=aA0 hm2;have HK:=aA0 ht.count;have HCL:=aA0 (aDs ht.mem hL);have HCL2:=aA0 (aDs hm2 hL);have HWI:=aA0 hwi;have HE24:=aA0 (aGe hm2);have HEN:=aA0 (aMp hm2);have hel:t.enabled.length=t.chosen.length+1:=ht.len;have HNX:Hid (aAm p g t S=⟨t.chosen++[S],t.enabled++[aAj p g (aBe p g t.last S)],aBe p g t.last S,aO0 t.count S (aAj p g (aBe p g t.last S))⟩):=rfl;obtain ⟨i0,hi0,hz0,hz1,hz2⟩:=info_parts aQf;obtain ⟨lc,le,lt,ct⟩:=t;dsimp only at *;have HEL:=aA0 hel;have HN:=aA0 hn;clear q1 q4 q7 hL hG ht hm2 hwi hel hn;obtain ⟨c2,hc2⟩:∃ c2,aBe p g lt S=c2:=⟨_,rfl⟩;have HC2:=aA0 hc2;rw [hc2] at HM2 HCL2 HE24 HEN HNX;clear hc2
 have HT3:Hid (Blk (((w.alloc (.cells #[.string p.name,.slice A1 p.vars.length k1,.slice A2 p.rules.length k2] 25)).alloc (.cells #[.slice A3 g.ids.length k3,.slice A4 g.ports.length k4] 29)).alloc (.cells #[.slice A7 lc.length k7,.slice A8 le.length k8,.slice A9 lt.length k9,.int .i64 ct.steps,.int .i64 ct.moves,.int .i64 ct.rounds,.int .i64 ct.begun,.int .u32 (ct.pending:Int)] 38)) (w.heap.size+1+1) #[.slice A7 lc.length k7,.slice A8 le.length k8,.slice A9 lt.length k9,.int .i64 ct.steps,.int .i64 ct.moves,.int .i64 ct.rounds,.int .i64 ct.begun,.int .u32 (ct.pending:Int)] 38):=by
  have:=Blk.new ((w.alloc (.cells #[.string p.name,.slice A1 p.vars.length k1,.slice A2 p.rules.length k2] 25)).alloc (.cells #[.slice A3 g.ids.length k3,.slice A4 g.ports.length k4] 29)) #[.slice A7 lc.length k7,.slice A8 le.length k8,.slice A9 lt.length k9,.int .i64 ct.steps,.int .i64 ct.moves,.int .i64 ct.rounds,.int .i64 ct.begun,.int .u32 (ct.pending:Int)] 38;rw [World.size_alloc,World.size_alloc] at this;exact this
 have HZ:Hid (Blk ((((w.alloc (.cells #[.string p.name,.slice A1 p.vars.length k1,.slice A2 p.rules.length k2] 25)).alloc (.cells #[.slice A3 g.ids.length k3,.slice A4 g.ports.length k4] 29)).alloc (.cells #[.slice A7 lc.length k7,.slice A8 le.length k8,.slice A9 lt.length k9,.int .i64 ct.steps,.int .i64 ct.moves,.int .i64 ct.rounds,.int .i64 ct.begun,.int .u32 (ct.pending:Int)] 38)).alloc (.cells #[.slice none 0 0,.slice none 0 0,.slice none 0 0,.int .i64 0,.int .i64 0,.int .i64 0,.int .i64 0,.int .u32 0] 38)) (w.heap.size+1+1+1) #[.slice none 0 0,.slice none 0 0,.slice none 0 0,.int .i64 0,.int .i64 0,.int .i64 0,.int .i64 0,.int .u32 0] 38):=by
  have:=Blk.new (((w.alloc (.cells #[.string p.name,.slice A1 p.vars.length k1,.slice A2 p.rules.length k2] 25)).alloc (.cells #[.slice A3 g.ids.length k3,.slice A4 g.ports.length k4] 29)).alloc (.cells #[.slice A7 lc.length k7,.slice A8 le.length k8,.slice A9 lt.length k9,.int .i64 ct.steps,.int .i64 ct.moves,.int .i64 ct.rounds,.int .i64 ct.begun,.int .u32 (ct.pending:Int)] 38)) #[.slice none 0 0,.slice none 0 0,.slice none 0 0,.int .i64 0,.int .i64 0,.int .i64 0,.int .i64 0,.int .u32 0] 38;rw [World.size_alloc,World.size_alloc,World.size_alloc] at this;exact this
 replace HT3:=aA0 (HT3.out.alloc (.cells #[.slice none 0 0,.slice none 0 0,.slice none 0 0,.int .i64 0,.int .i64 0,.int .i64 0,.int .i64 0,.int .u32 0] 38));have HW:=((Bel.refl ((w.alloc (.cells #[.string p.name,.slice A1 p.vars.length k1,.slice A2 p.rules.length k2] 25)).alloc (.cells #[.slice A3 g.ids.length k3,.slice A4 g.ports.length k4] 29))).alloc (.cells #[.slice A7 lc.length k7,.slice A8 le.length k8,.slice A9 lt.length k9,.int .i64 ct.steps,.int .i64 ct.moves,.int .i64 ct.rounds,.int .i64 ct.begun,.int .u32 (ct.pending:Int)] 38)).alloc (.cells #[.slice none 0 0,.slice none 0 0,.slice none 0 0,.int .i64 0,.int .i64 0,.int .i64 0,.int .i64 0,.int .u32 0] 38);generalize aAj p g c2=E at *;go_enter func41,ntmps41
 go_upto_region 4 with (first
  | (go_at_call 68;have hst:=aRu _ p _ g _ lt S _ (HPV.out _ (aA1 HW)) (HGV.out _ (aA1 HW)) (HCV.out _ (aA1 HW)) HL.out HGL.out HCL.out (by omega) HM.out h0 HWI.out;rw [HC2.out] at hst;refine hst.mono ?_;clear hst;rintro e w2 ⟨gb,cap,hs,rfl,hO,hsn,hb⟩;have hz2:=HZ.out.lt;have HCN:Hid (∀ W,aAv (w.heap.size+1+1+1+1) w2 W->aAy W (.slice (some ⟨gb,0,none⟩) c2.length cap) c2):=(fun W k=>hO.newC hsn (k.up (by omega)));clear hO hsn hz2;replace HT3:=aA0 (HT3.out.keep hb);replace HZ:=aA0 (HZ.out.keep hb);replace HW:=HW.trans hb;clear hb;(try clear p0 p1 p2 g0 g1 gsz);obtain ⟨p0,p1,p2,g0,g1,gsz⟩:=aAi HW;(try clear s0 s1 s2 s3 s4 s5 s6 s7 sz);have s0:=HT3.out.cell 0 (v := .slice A7 lc.length k7) rfl;have s1:=HT3.out.cell 1 (v := .slice A8 le.length k8) rfl;have s2:=HT3.out.cell 2 (v := .slice A9 lt.length k9) rfl;have s3:=HT3.out.cell 3 (v := .int .i64 ct.steps) rfl;have s4:=HT3.out.cell 4 (v := .int .i64 ct.moves) rfl;have s5:=HT3.out.cell 5 (v := .int .i64 ct.rounds) rfl;have s6:=HT3.out.cell 6 (v := .int .i64 ct.begun) rfl;have s7:=HT3.out.cell 7 (v := .int .u32 (ct.pending:Int)) rfl;have sz:=HT3.out.lt)
  | (go_at_call 65;refine (aJ4 _ p _ g _ c2 _ (HPV.out _ (aA1 HW)) (HGV.out _ (aA1 HW)) (HCN.out _ (aAv.refl _ _)) HL.out HGL.out HCL2.out).mono ?_;rintro e w3 ⟨rfl,hb⟩;rw [HEN.out];replace HCN:=aA0 (fun W (k:aAv (w.heap.size+1+1+1+1) w3 W)=>HCN.out W (k.back hb));replace HT3:=aA0 (HT3.out.keep hb);replace HZ:=aA0 (HZ.out.keep hb);replace HW:=HW.trans hb;clear hb;(try clear p0 p1 p2 g0 g1 gsz);obtain ⟨p0,p1,p2,g0,g1,gsz⟩:=aAi HW;(try clear s0 s1 s2 s3 s4 s5 s6 s7 sz);have s0:=HT3.out.cell 0 (v := .slice A7 lc.length k7) rfl;have s1:=HT3.out.cell 1 (v := .slice A8 le.length k8) rfl;have s2:=HT3.out.cell 2 (v := .slice A9 lt.length k9) rfl;have s3:=HT3.out.cell 3 (v := .int .i64 ct.steps) rfl;have s4:=HT3.out.cell 4 (v := .int .i64 ct.moves) rfl;have s5:=HT3.out.cell 5 (v := .int .i64 ct.rounds) rfl;have s6:=HT3.out.cell 6 (v := .int .i64 ct.begun) rfl;have s7:=HT3.out.cell 7 (v := .int .u32 (ct.pending:Int)) rfl;have sz:=HT3.out.lt)
  | (go_at_call 69;refine (aVp ct lc.length S E _ HK.out (by have:=HN.out;omega) h0 hS HE24.out).mono ?_;rintro e w4 ⟨rfl,hb⟩;rw [show aIs (aO0 ct S E) = .agg #[.int .i64 (aO0 ct S E).steps,.int .i64 (aO0 ct S E).moves,.int .i64 (aO0 ct S E).rounds,.int .i64 (aO0 ct S E).begun,.int .u32 ((aO0 ct S E).pending:Int)] from rfl];replace HCN:=aA0 (fun W (k:aAv (w.heap.size+1+1+1+1) w4 W)=>HCN.out W (k.back hb));replace HT3:=aA0 (HT3.out.keep hb);replace HZ:=aA0 (HZ.out.keep hb);replace HW:=HW.trans hb;clear hb;(try clear p0 p1 p2 g0 g1 gsz);obtain ⟨p0,p1,p2,g0,g1,gsz⟩:=aAi HW;(try clear s0 s1 s2 s3 s4 s5 s6 s7 sz);have s0:=HT3.out.cell 0 (v := .slice A7 lc.length k7) rfl;have s1:=HT3.out.cell 1 (v := .slice A8 le.length k8) rfl;have s2:=HT3.out.cell 2 (v := .slice A9 lt.length k9) rfl;have s3:=HT3.out.cell 3 (v := .int .i64 ct.steps) rfl;have s4:=HT3.out.cell 4 (v := .int .i64 ct.moves) rfl;have s5:=HT3.out.cell 5 (v := .int .i64 ct.rounds) rfl;have s6:=HT3.out.cell 6 (v := .int .i64 ct.begun) rfl;have s7:=HT3.out.cell 7 (v := .int .u32 (ct.pending:Int)) rfl;have sz:=HT3.out.lt))
 generalize aO0 ct S E=kc at *;have HK4:Hid (Blk (w4.alloc (.cells #[.int .i64 kc.steps,.int .i64 kc.moves,.int .i64 kc.rounds,.int .i64 kc.begun,.int .u32 (kc.pending:Int)] 36)) w4.heap.size #[.int .i64 kc.steps,.int .i64 kc.moves,.int .i64 kc.rounds,.int .i64 kc.begun,.int .u32 (kc.pending:Int)] 36):=Blk.new _ _ _;have hal:Bel w4 (w4.alloc (.cells #[.int .i64 kc.steps,.int .i64 kc.moves,.int .i64 kc.rounds,.int .i64 kc.begun,.int .u32 (kc.pending:Int)] 36)):=(Bel.refl w4).alloc _;replace HT3:=aA0 (HT3.out.keep hal);replace HZ:=aA0 (HZ.out.keep hal);replace HCN:=aA0 (fun W (k:aAv (w.heap.size+1+1+1+1) _ W)=>HCN.out W (k.back hal));replace HW:=HW.trans hal;clear hal
 (try clear s0 s1 s2 s3 s4 s5 s6 s7 sz)
 (try clear p0 p1 p2 g0 g1 gsz)
 generalize w4.alloc (.cells #[.int .i64 kc.steps,.int .i64 kc.moves,.int .i64 kc.rounds,.int .i64 kc.begun,.int .u32 (kc.pending:Int)] 36)=W4 at *;generalize w4.heap.size=bc at *;have HZ4:=aA0 HZ.out;have HWR:=aA0 HW;have hcell:Hid (∀ w',Bel W4 w'->(fun w'=>w'.cell? ⟨w.heap.size+1+1,0,none⟩=some (.slice A7 lc.length k7)/\w'.cell? ⟨w.heap.size+1+1,1,none⟩=some (.slice A8 le.length k8)/\w.heap.size+1+1<w'.heap.size/\w'.cell? ⟨bc,0,none⟩=some (.int .i64 kc.steps)/\w'.cell? ⟨bc,1,none⟩=some (.int .i64 kc.moves)/\w'.cell? ⟨bc,2,none⟩=some (.int .i64 kc.rounds)/\w'.cell? ⟨bc,3,none⟩=some (.int .i64 kc.begun)/\w'.cell? ⟨bc,4,none⟩=some (.int .u32 (kc.pending:Int))/\bc<w'.heap.size) w'):=fun w' k=>have q:=HT3.out.keep k;have r:=HK4.out.keep k;⟨q.cell 0 rfl,q.cell 1 rfl,q.lt,r.cell 0 rfl,r.cell 1 rfl,r.cell 2 rfl,r.cell 3 rfl,r.cell 4 rfl,r.lt⟩
 have HFIN:Hid (∀ (wl wr:World) (RA2:Option Addr) (cA2:Nat) (RB2:Option Addr) (cB2:Nat) (bB:Nat),Bel W4 wl->wl.ownsRow W4.heap.size 34 1 (.slice RA2 (lc++[S]).length cA2) (lc++[S]).length ((lc++[S]).map aBk)->wl.ownsRow bB 34 1 (.slice RB2 (le++[E]).length cB2) (le++[E]).length ((le++[E]).map aBk)->W4.heap.size<=bB->Agr (fun k=>k=w.heap.size+1+1+1) wl wr ->
   ∃ vt,Ending.returned (.agg #[.slice RA2 (lc.length+1) cA2,.slice RB2 (le.length+1) cB2,.slice (some ⟨gb,0,none⟩) c2.length cap,.int .i64 kc.steps,.int .i64 kc.moves,.int .i64 kc.rounds,.int .i64 kc.begun,.int .u32 (kc.pending:Int)]) = .returned vt/\(∀ W,aAv w.heap.size wr W->aB5 W vt (aAm p g ⟨lc,le,lt,ct⟩ S))/\Bel w wr):=fun wl wr RA2 cA2 RB2 cB2 bB hB hA hBr hbB hag=>by
  have hz:=HZ4.out.lt;have hsz:=hB.size;have hw0:=(aA1 (HWR.out.trans hB));rw [show lc.length+1=(lc++[S]).length by simp,show le.length+1=(le++[E]).length by simp]
  refine ⟨_,rfl,fun W hW=>?_,?_⟩
  .rw [HNX.out]
   have hX:aAv (w.heap.size+1+1+1+1) wl W:=⟨Nat.le_trans hag.size hW.1,fun i h1 h2=>(hW.2 i (by omega) (Nat.lt_of_lt_of_le h2 hag.size)).trans (hag.block i h2 (by omega))⟩
   have ca:=aE3 hA;have cb:=aE3 hBr;exact ⟨RA2,cA2,RB2,cB2,some ⟨gb,0,none⟩,cap,rfl,aOt hA (by omega) hX,ca.1,ca.2,aOt hBr (by omega) hX,cb.1,cb.2,HCN.out W (hX.back hB)⟩
  .exact Agr.belE hw0 hag (fun k hk=>by omega)
 refine aA6.start (fun w'=>w'.cell? ⟨w.heap.size+1+1,0,none⟩=some (.slice A7 lc.length k7)/\w'.cell? ⟨w.heap.size+1+1,1,none⟩=some (.slice A8 le.length k8)/\w.heap.size+1+1<w'.heap.size/\w'.cell? ⟨bc,0,none⟩=some (.int .i64 kc.steps)/\w'.cell? ⟨bc,1,none⟩=some (.int .i64 kc.moves)/\w'.cell? ⟨bc,2,none⟩=some (.int .i64 kc.rounds)/\w'.cell? ⟨bc,3,none⟩=some (.int .i64 kc.begun)/\w'.cell? ⟨bc,4,none⟩=some (.int .u32 (kc.pending:Int))/\bc<w'.heap.size) 15 (by kernel_rfl) ?_
 have HB:=(Bel.refl W4).drew;have hHeld:=hcell.out _ HB
 (refine aA6.t (v:=?_) 0 35 rfl rfl (by kernel_rfl) (fun _ _ _ h=>h) hHeld (Or.inl ⟨by rfl,?_⟩) ?_;rotate_left 1;focus (intro w' hSw;(try dsimp only at hSw);go_simp;(try with_reducible rfl);done))
 (refine aA6.t (v:=?_) 1 36 rfl rfl (by kernel_rfl) (fun _ _ _ h=>h) hHeld (Or.inl ⟨by rfl,?_⟩) ?_;rotate_left 1;focus (intro w' hSw;(try dsimp only at hSw);go_simp;(try with_reducible rfl);done))
 (refine aA6.t (v:=?_) 3 38 rfl rfl (by kernel_rfl) (fun _ _ _ h=>h) hHeld (Or.inl ⟨by rfl,?_⟩) ?_;rotate_left 1;focus (intro w' hSw;(try dsimp only at hSw);go_simp;(try with_reducible rfl);done))
 (refine aA6.t (v:=?_) 6 41 rfl rfl (by kernel_rfl) (fun _ _ _ h=>h) hHeld (Or.inl ⟨by rfl,?_⟩) ?_;rotate_left 1;focus (intro w' hSw;(try dsimp only at hSw);go_simp;(try with_reducible rfl);done))
 (refine aA6.t (v:=?_) 7 42 rfl rfl (by kernel_rfl) (fun _ _ _ h=>h) hHeld (Or.inl ⟨by rfl,?_⟩) ?_;rotate_left 1;focus (intro w' hSw;(try dsimp only at hSw);go_simp;(try with_reducible rfl);done))
 (refine aA6.t (v:=?_) 9 44 rfl rfl (by kernel_rfl) (fun _ _ _ h=>h) hHeld (Or.inl ⟨by rfl,?_⟩) ?_;rotate_left 1;focus (intro w' hSw;(try dsimp only at hSw);go_simp;(try with_reducible rfl);done))
 (refine aA6.t (v:=?_) 12 47 rfl rfl (by kernel_rfl) (fun _ _ _ h=>h) hHeld (Or.inl ⟨by rfl,?_⟩) ?_;rotate_left 1;focus (intro w' hSw;(try dsimp only at hSw);go_simp;(try with_reducible rfl);done))
 (refine aA6.t (v:=?_) 13 48 rfl rfl (by kernel_rfl) (fun _ _ _ h=>h) hHeld (Or.inl ⟨by rfl,?_⟩) ?_;rotate_left 1;focus (intro w' hSw;(try dsimp only at hSw);go_simp;(try with_reducible rfl);done))
 clear hHeld
 (try simp only [Act.put,List.setIfInBounds_toArray,List.set_cons_zero,List.set_cons_succ])
 refine aA6.three (i:=2) (j:=4) (k:=10) (by kernel_rfl) rfl rfl rfl (fun K hK=>?_) (fun K hK=>?_) (fun K hK=>?_)
 .refine aBd _ rfl (.const (.slice none 0 0)) (.tmp 36) 31 rfl W4.heap.size 34 i0 (.int .u32 0) 1 4 underlying31 hi0 hz0 hz1 hz2 rfl (by decide) none 0 0 [] (by simp [Act.eval]) (World.ownsRow_nil _ _ _ _) A7 lc.length k7 (lc.map aBk) (by simp [Act.eval]) (aBc (HM7.out _ (aA1 ((Bel.refl ((w.alloc (.cells #[.string p.name,.slice A1 p.vars.length k1,.slice A2 p.rules.length k2] 25)).alloc (.cells #[.slice A3 g.ids.length k3,.slice A4 g.ports.length k4] 29))).trans (HWR.out.trans HB)))).1) (aAu _) (by have:=HN.out;have:=HEL.out;unfold maxLen;omega) (by have:=HN.out;have:=HEL.out;omega) HB.size ?_
  intro RA cA V0_2 hown hgr hat
  rw [List.nil_append,Nat.zero_add] at hown;rw [Nat.zero_add] at hat;have hbN:Bel W4.drew V0_2:=(Bel.refl W4.drew).grown hgr (fun k hk=>by cases hk)
  have HRA:=aA0 hown;replace HB:=HB.trans hbN;refine hK.out _ _ (fun _=>hcell.out _ HB) ?_
  clear hK K hown hgr hat hbN
  (try simp only [Act.put,List.setIfInBounds_toArray,List.set_cons_zero,List.set_cons_succ])
  refine aA6.two (i:=4) (j:=10) (by kernel_rfl) rfl rfl (fun K hK=>?_) (fun K hK=>?_)
  .
   (try go_simp)
   refine hK.out _ _ (fun _=>hcell.out _ (HB.alloc (.cells #[.int .u32 (S:Int)] 34))) ?_
   clear hK K
   (try simp only [Act.put,List.setIfInBounds_toArray,List.set_cons_zero,List.set_cons_succ])
   have H4:=aA0 (Blk.new V0_2 #[.int .u32 (S:Int)] 34);replace HB:=HB.alloc (.cells #[.int .u32 (S:Int)] 34);replace HRA:=aA0 (((Bel.refl V0_2).alloc (.cells #[.int .u32 (S:Int)] 34)).owns HRA.out);generalize V0_2.alloc (.cells #[.int .u32 (S:Int)] 34)=V1_4 at *;generalize hgE:V0_2.heap.size=g4 at H4 ⊢;clear hgE;refine aA6.two (i:=5) (j:=10) (by kernel_rfl) rfl rfl (fun K hK=>?_) (fun K hK=>?_)
   .have hsw:=HB.size
    refine aAh _ rfl (.tmp 37) (.tmp 39) 31 rfl W4.heap.size 34 i0 (.int .u32 0) 1 4 underlying31 hi0 hz0 hz1 hz2 rfl (by decide) RA lc.length cA (lc.map aBk) (by simp [Act.eval]) HRA.out g4 #[.int .u32 (S:Int)] 34 (0,0) (by simp [Act.eval]) H4.out rfl (aBp _) (by have:=HN.out;have:=HEL.out;unfold maxLen;omega) (by have:=HN.out;have:=HEL.out;omega) HB.size ?_
    intro RA2 cA2 V2_5 hown hgr _
    replace HB:=HB.grown hgr (fun k hk=>by have:=(aA8 HRA.out k hk.symm).1;omega)
    replace HRA:=aA0 (aC2 rfl hown);have HBA:=Bel.refl V2_5;have hWAs:Hid (W4.heap.size<=V2_5.heap.size):=HB.size
    skip
    refine hK.out _ _ (fun _=>hcell.out _ HB) ?_
    clear hK K hown hgr hsw H4
    (try simp only [Act.put,List.setIfInBounds_toArray,List.set_cons_zero,List.set_cons_succ])
    refine aA6.two (i:=8) (j:=10) (by kernel_rfl) rfl rfl (fun K hK=>?_) (fun K hK=>?_)
    .refine aBd _ rfl (.const (.slice none 0 0)) (.tmp 42) 31 rfl V2_5.heap.size 34 i0 (.int .u32 0) 1 4 underlying31 hi0 hz0 hz1 hz2 rfl (by decide) none 0 0 [] (by simp [Act.eval]) (World.ownsRow_nil _ _ _ _) A8 le.length k8 (le.map aBk) (by simp [Act.eval]) (aBc (HM7.out _ (aA1 ((Bel.refl ((w.alloc (.cells #[.string p.name,.slice A1 p.vars.length k1,.slice A2 p.rules.length k2] 25)).alloc (.cells #[.slice A3 g.ids.length k3,.slice A4 g.ports.length k4] 29))).trans (HWR.out.trans HB)))).2) (aAu _) (by have:=HN.out;have:=HEL.out;unfold maxLen;omega) (by have:=HN.out;have:=HEL.out;omega) HBA.size ?_
     intro RB cB V3_8 hown hgr hat
     rw [List.nil_append,Nat.zero_add] at hown;rw [Nat.zero_add] at hat;have hbN:Bel V2_5 V3_8:=(Bel.refl V2_5).grown hgr (fun k hk=>by cases hk)
     have HRB:=aA0 hown;replace HBA:=HBA.trans hbN;replace HB:=HB.trans hbN;refine hK.out _ _ (fun _=>hcell.out _ HB) ?_
     clear hK K hown hgr hat hbN
     (try simp only [Act.put,List.setIfInBounds_toArray,List.set_cons_zero,List.set_cons_succ])
     refine aA6.one (i:=10) (by kernel_rfl) rfl (fun K hK=>?_)
     (try go_simp)
     refine hK.out _ _ (fun _=>hcell.out _ (HB.alloc (.cells #[.int .u32 (E:Int)] 34))) ?_
     clear hK K
     (try simp only [Act.put,List.setIfInBounds_toArray,List.set_cons_zero,List.set_cons_succ])
     have H10:=aA0 (Blk.new V3_8 #[.int .u32 (E:Int)] 34);replace HB:=HB.alloc (.cells #[.int .u32 (E:Int)] 34);replace HBA:=HBA.alloc (.cells #[.int .u32 (E:Int)] 34);replace HRB:=aA0 (((Bel.refl V3_8).alloc (.cells #[.int .u32 (E:Int)] 34)).owns HRB.out);generalize V3_8.alloc (.cells #[.int .u32 (E:Int)] 34)=V4_10 at *;generalize hgE:V3_8.heap.size=g10 at H10 ⊢;clear hgE;refine aA6.one (i:=11) (by kernel_rfl) rfl (fun K hK=>?_)
     have hsw:=HB.size;have hwa:W4.heap.size<=V2_5.heap.size:=hWAs.out;refine aAh _ rfl (.tmp 43) (.tmp 45) 31 rfl V2_5.heap.size 34 i0 (.int .u32 0) 1 4 underlying31 hi0 hz0 hz1 hz2 rfl (by decide) RB le.length cB (le.map aBk) (by simp [Act.eval]) HRB.out g10 #[.int .u32 (E:Int)] 34 (0,0) (by simp [Act.eval]) H10.out rfl (aBp _) (by have:=HN.out;have:=HEL.out;unfold maxLen;omega) (by have:=HN.out;have:=HEL.out;omega) HBA.size ?_
     intro RB2 cB2 V5_11 hown hgr _
     replace HB:=HB.grown hgr (fun k hk=>by have:=(aA8 HRB.out k hk.symm).1;omega)
     replace HBA:=HBA.grown hgr (fun k hk=>by have:=(aA8 HRB.out k hk.symm).1;omega)
     replace HRB:=aA0 (aC2 rfl hown);refine hK.out _ _ (fun _=>hcell.out _ HB) ?_
     clear hK K hown hgr hsw H10 hwa
     (try simp only [Act.put,List.setIfInBounds_toArray,List.set_cons_zero,List.set_cons_succ])
     have HZL:=aA0 (HZ4.out.keep HB);have z0:=HZL.out.cell 0 (v := .slice none 0 0) rfl;have zf0:=HZL.out.frozen 0;have z1:=HZL.out.cell 1 (v := .slice none 0 0) rfl;have zf1:=HZL.out.frozen 1;have z2:=HZL.out.cell 2 (v := .slice none 0 0) rfl;have zf2:=HZL.out.frozen 2;have z3:=HZL.out.cell 3 (v := .int .i64 0) rfl;have zf3:=HZL.out.frozen 3;have z4:=HZL.out.cell 4 (v := .int .i64 0) rfl;have zf4:=HZL.out.frozen 4;have z5:=HZL.out.cell 5 (v := .int .i64 0) rfl;have zf5:=HZL.out.frozen 5;have z6:=HZL.out.cell 6 (v := .int .i64 0) rfl;have zf6:=HZL.out.frozen 6;have z7:=HZL.out.cell 7 (v := .int .u32 0) rfl;have zf7:=HZL.out.frozen 7;have zl:=HZL.out.lt;have hHeld:=hcell.out _ HB
     (refine aA6.t (v:=?_) 14 49 rfl rfl (by kernel_rfl) (fun _ _ _ h=>h) hHeld (Or.inl ⟨by rfl,?_⟩) ?_;rotate_left 1;focus (intro w' hSw;(try dsimp only at hSw);go_simp;(try with_reducible rfl);done))
     (refine aA6.one (i:=15) (by kernel_rfl) rfl (fun K hK=>?_));go_simp;refine hK.out _ _ (fun h=>absurd rfl h) ?_;clear hK K;refine aA6.done (by kernel_rfl) ?_ _;(try simp only [Act.put,List.setIfInBounds_toArray,List.set_cons_zero,List.set_cons_succ])
     go_wp2_with fail
     have HR9:Blk ((((((((V5_11.setCell ⟨w.heap.size+1+1+1,0,none⟩ (.slice RA2 (lc.length+1) cA2)).setCell ⟨w.heap.size+1+1+1,1,none⟩ (.slice RB2 (le.length+1) cB2)).setCell ⟨w.heap.size+1+1+1,2,none⟩ (.slice (some ⟨gb,0,none⟩) c2.length cap)).setCell ⟨w.heap.size+1+1+1,3,none⟩ (.int .i64 kc.steps)).setCell ⟨w.heap.size+1+1+1,4,none⟩ (.int .i64 kc.moves)).setCell ⟨w.heap.size+1+1+1,5,none⟩ (.int .i64 kc.rounds)).setCell ⟨w.heap.size+1+1+1,6,none⟩ (.int .i64 kc.begun)).setCell ⟨w.heap.size+1+1+1,7,none⟩ (.int .u32 (kc.pending:Int))) (w.heap.size+1+1+1) #[.slice RA2 (lc.length+1) cA2,.slice RB2 (le.length+1) cB2,.slice (some ⟨gb,0,none⟩) c2.length cap,.int .i64 kc.steps,.int .i64 kc.moves,.int .i64 kc.rounds,.int .i64 kc.begun,.int .u32 (kc.pending:Int)] 38:=HZL.out.trace;have y0:=HR9.cell 0 (v := .slice RA2 (lc.length+1) cA2) rfl;have y1:=HR9.cell 1 (v := .slice RB2 (le.length+1) cB2) rfl;have y2:=HR9.cell 2 (v := .slice (some ⟨gb,0,none⟩) c2.length cap) rfl;have y3:=HR9.cell 3 (v := .int .i64 kc.steps) rfl;have y4:=HR9.cell 4 (v := .int .i64 kc.moves) rfl;have y5:=HR9.cell 5 (v := .int .i64 kc.rounds) rfl;have y6:=HR9.cell 6 (v := .int .i64 kc.begun) rfl;have y7:=HR9.cell 7 (v := .int .u32 (kc.pending:Int)) rfl;refine bodyPost_ret (v := .agg #[.slice RA2 (lc.length+1) cA2,.slice RB2 (le.length+1) cB2,.slice (some ⟨gb,0,none⟩) c2.length cap,.int .i64 kc.steps,.int .i64 kc.moves,.int .i64 kc.rounds,.int .i64 kc.begun,.int .u32 (kc.pending:Int)]) (by simp [results,Tryz.results41,go_sem,y0,y1,y2,y3,y4,y5,y6,y7];try go_simp) rfl ?_
     have hag:Agr (fun k=>k=w.heap.size+1+1+1) V5_11 ((((((((V5_11.setCell ⟨w.heap.size+1+1+1,0,none⟩ (.slice RA2 (lc.length+1) cA2)).setCell ⟨w.heap.size+1+1+1,1,none⟩ (.slice RB2 (le.length+1) cB2)).setCell ⟨w.heap.size+1+1+1,2,none⟩ (.slice (some ⟨gb,0,none⟩) c2.length cap)).setCell ⟨w.heap.size+1+1+1,3,none⟩ (.int .i64 kc.steps)).setCell ⟨w.heap.size+1+1+1,4,none⟩ (.int .i64 kc.moves)).setCell ⟨w.heap.size+1+1+1,5,none⟩ (.int .i64 kc.rounds)).setCell ⟨w.heap.size+1+1+1,6,none⟩ (.int .i64 kc.begun)).setCell ⟨w.heap.size+1+1+1,7,none⟩ (.int .u32 (kc.pending:Int))):=Agr.trace (E:=fun k=>k=w.heap.size+1+1+1) rfl;have hA:=HBA.owns HRA.out;have hf:=HFIN.out V5_11 _ RA2 cA2 RB2 cB2 _ HB hA HRB.out hWAs.out hag;exact hf
    .
     (try go_simp)
     refine hK.out _ _ (fun _=>hcell.out _ (HB.alloc (.cells #[.int .u32 (E:Int)] 34))) ?_
     clear hK K
     (try simp only [Act.put,List.setIfInBounds_toArray,List.set_cons_zero,List.set_cons_succ])
     have H10:=aA0 (Blk.new V2_5 #[.int .u32 (E:Int)] 34);replace HB:=HB.alloc (.cells #[.int .u32 (E:Int)] 34);replace HBA:=HBA.alloc (.cells #[.int .u32 (E:Int)] 34);generalize V2_5.alloc (.cells #[.int .u32 (E:Int)] 34)=V3_10 at *;generalize hgE:V2_5.heap.size=g10 at H10 ⊢;clear hgE;refine aA6.one (i:=8) (by kernel_rfl) rfl (fun K hK=>?_)
     refine aBd _ rfl (.const (.slice none 0 0)) (.tmp 42) 31 rfl V2_5.heap.size 34 i0 (.int .u32 0) 1 4 underlying31 hi0 hz0 hz1 hz2 rfl (by decide) none 0 0 [] (by simp [Act.eval]) (World.ownsRow_nil _ _ _ _) A8 le.length k8 (le.map aBk) (by simp [Act.eval]) (aBc (HM7.out _ (aA1 ((Bel.refl ((w.alloc (.cells #[.string p.name,.slice A1 p.vars.length k1,.slice A2 p.rules.length k2] 25)).alloc (.cells #[.slice A3 g.ids.length k3,.slice A4 g.ports.length k4] 29))).trans (HWR.out.trans HB)))).2) (aAu _) (by have:=HN.out;have:=HEL.out;unfold maxLen;omega) (by have:=HN.out;have:=HEL.out;omega) HBA.size ?_
     intro RB cB V4_8 hown hgr hat
     rw [List.nil_append,Nat.zero_add] at hown;rw [Nat.zero_add] at hat;have hbN:Bel V3_10 V4_8:=(Bel.refl V3_10).grown hgr (fun k hk=>by cases hk)
     have HRB:=aA0 hown;replace H10:=aA0 (H10.out.keep hbN);replace HBA:=HBA.trans hbN;replace HB:=HB.trans hbN;refine hK.out _ _ (fun _=>hcell.out _ HB) ?_
     clear hK K hown hgr hat hbN
     (try simp only [Act.put,List.setIfInBounds_toArray,List.set_cons_zero,List.set_cons_succ])
     refine aA6.one (i:=11) (by kernel_rfl) rfl (fun K hK=>?_)
     have hsw:=HB.size;have hwa:W4.heap.size<=V2_5.heap.size:=hWAs.out;refine aAh _ rfl (.tmp 43) (.tmp 45) 31 rfl V2_5.heap.size 34 i0 (.int .u32 0) 1 4 underlying31 hi0 hz0 hz1 hz2 rfl (by decide) RB le.length cB (le.map aBk) (by simp [Act.eval]) HRB.out g10 #[.int .u32 (E:Int)] 34 (0,0) (by simp [Act.eval]) H10.out rfl (aBp _) (by have:=HN.out;have:=HEL.out;unfold maxLen;omega) (by have:=HN.out;have:=HEL.out;omega) HBA.size ?_
     intro RB2 cB2 V5_11 hown hgr _
     replace HB:=HB.grown hgr (fun k hk=>by have:=(aA8 HRB.out k hk.symm).1;omega)
     replace HBA:=HBA.grown hgr (fun k hk=>by have:=(aA8 HRB.out k hk.symm).1;omega)
     replace HRB:=aA0 (aC2 rfl hown);refine hK.out _ _ (fun _=>hcell.out _ HB) ?_
     clear hK K hown hgr hsw H10 hwa
     (try simp only [Act.put,List.setIfInBounds_toArray,List.set_cons_zero,List.set_cons_succ])
     have HZL:=aA0 (HZ4.out.keep HB);have z0:=HZL.out.cell 0 (v := .slice none 0 0) rfl;have zf0:=HZL.out.frozen 0;have z1:=HZL.out.cell 1 (v := .slice none 0 0) rfl;have zf1:=HZL.out.frozen 1;have z2:=HZL.out.cell 2 (v := .slice none 0 0) rfl;have zf2:=HZL.out.frozen 2;have z3:=HZL.out.cell 3 (v := .int .i64 0) rfl;have zf3:=HZL.out.frozen 3;have z4:=HZL.out.cell 4 (v := .int .i64 0) rfl;have zf4:=HZL.out.frozen 4;have z5:=HZL.out.cell 5 (v := .int .i64 0) rfl;have zf5:=HZL.out.frozen 5;have z6:=HZL.out.cell 6 (v := .int .i64 0) rfl;have zf6:=HZL.out.frozen 6;have z7:=HZL.out.cell 7 (v := .int .u32 0) rfl;have zf7:=HZL.out.frozen 7;have zl:=HZL.out.lt;have hHeld:=hcell.out _ HB
     (refine aA6.t (v:=?_) 14 49 rfl rfl (by kernel_rfl) (fun _ _ _ h=>h) hHeld (Or.inl ⟨by rfl,?_⟩) ?_;rotate_left 1;focus (intro w' hSw;(try dsimp only at hSw);go_simp;(try with_reducible rfl);done))
     (refine aA6.one (i:=15) (by kernel_rfl) rfl (fun K hK=>?_));go_simp;refine hK.out _ _ (fun h=>absurd rfl h) ?_;clear hK K;refine aA6.done (by kernel_rfl) ?_ _;(try simp only [Act.put,List.setIfInBounds_toArray,List.set_cons_zero,List.set_cons_succ])
     go_wp2_with fail
     have HR9:Blk ((((((((V5_11.setCell ⟨w.heap.size+1+1+1,0,none⟩ (.slice RA2 (lc.length+1) cA2)).setCell ⟨w.heap.size+1+1+1,1,none⟩ (.slice RB2 (le.length+1) cB2)).setCell ⟨w.heap.size+1+1+1,2,none⟩ (.slice (some ⟨gb,0,none⟩) c2.length cap)).setCell ⟨w.heap.size+1+1+1,3,none⟩ (.int .i64 kc.steps)).setCell ⟨w.heap.size+1+1+1,4,none⟩ (.int .i64 kc.moves)).setCell ⟨w.heap.size+1+1+1,5,none⟩ (.int .i64 kc.rounds)).setCell ⟨w.heap.size+1+1+1,6,none⟩ (.int .i64 kc.begun)).setCell ⟨w.heap.size+1+1+1,7,none⟩ (.int .u32 (kc.pending:Int))) (w.heap.size+1+1+1) #[.slice RA2 (lc.length+1) cA2,.slice RB2 (le.length+1) cB2,.slice (some ⟨gb,0,none⟩) c2.length cap,.int .i64 kc.steps,.int .i64 kc.moves,.int .i64 kc.rounds,.int .i64 kc.begun,.int .u32 (kc.pending:Int)] 38:=HZL.out.trace;have y0:=HR9.cell 0 (v := .slice RA2 (lc.length+1) cA2) rfl;have y1:=HR9.cell 1 (v := .slice RB2 (le.length+1) cB2) rfl;have y2:=HR9.cell 2 (v := .slice (some ⟨gb,0,none⟩) c2.length cap) rfl;have y3:=HR9.cell 3 (v := .int .i64 kc.steps) rfl;have y4:=HR9.cell 4 (v := .int .i64 kc.moves) rfl;have y5:=HR9.cell 5 (v := .int .i64 kc.rounds) rfl;have y6:=HR9.cell 6 (v := .int .i64 kc.begun) rfl;have y7:=HR9.cell 7 (v := .int .u32 (kc.pending:Int)) rfl;refine bodyPost_ret (v := .agg #[.slice RA2 (lc.length+1) cA2,.slice RB2 (le.length+1) cB2,.slice (some ⟨gb,0,none⟩) c2.length cap,.int .i64 kc.steps,.int .i64 kc.moves,.int .i64 kc.rounds,.int .i64 kc.begun,.int .u32 (kc.pending:Int)]) (by simp [results,Tryz.results41,go_sem,y0,y1,y2,y3,y4,y5,y6,y7];try go_simp) rfl ?_
     have hag:Agr (fun k=>k=w.heap.size+1+1+1) V5_11 ((((((((V5_11.setCell ⟨w.heap.size+1+1+1,0,none⟩ (.slice RA2 (lc.length+1) cA2)).setCell ⟨w.heap.size+1+1+1,1,none⟩ (.slice RB2 (le.length+1) cB2)).setCell ⟨w.heap.size+1+1+1,2,none⟩ (.slice (some ⟨gb,0,none⟩) c2.length cap)).setCell ⟨w.heap.size+1+1+1,3,none⟩ (.int .i64 kc.steps)).setCell ⟨w.heap.size+1+1+1,4,none⟩ (.int .i64 kc.moves)).setCell ⟨w.heap.size+1+1+1,5,none⟩ (.int .i64 kc.rounds)).setCell ⟨w.heap.size+1+1+1,6,none⟩ (.int .i64 kc.begun)).setCell ⟨w.heap.size+1+1+1,7,none⟩ (.int .u32 (kc.pending:Int))):=Agr.trace (E:=fun k=>k=w.heap.size+1+1+1) rfl;have hA:=HBA.owns HRA.out;have hf:=HFIN.out V5_11 _ RA2 cA2 RB2 cB2 _ HB hA HRB.out hWAs.out hag;exact hf
   .
    (try go_simp)
    refine hK.out _ _ (fun _=>hcell.out _ (HB.alloc (.cells #[.int .u32 (E:Int)] 34))) ?_
    clear hK K
    (try simp only [Act.put,List.setIfInBounds_toArray,List.set_cons_zero,List.set_cons_succ])
    have H10:=aA0 (Blk.new V1_4 #[.int .u32 (E:Int)] 34);replace HB:=HB.alloc (.cells #[.int .u32 (E:Int)] 34);have HNE:Hid (∀ k,some k=(Value.slice RA lc.length cA).ownBlock->k≠V1_4.heap.size):=fun k hk=>by have:=aA8 HRA.out k hk;omega
    replace HRA:=aA0 (((Bel.refl V1_4).alloc (.cells #[.int .u32 (E:Int)] 34)).owns HRA.out);replace H4:=aA0 (H4.out.alloc (.cells #[.int .u32 (E:Int)] 34));generalize V1_4.alloc (.cells #[.int .u32 (E:Int)] 34)=V2_10 at *;generalize hgE:V1_4.heap.size=g10 at H10 HNE ⊢;clear hgE;refine aA6.one (i:=5) (by kernel_rfl) rfl (fun K hK=>?_)
    have hsw:=HB.size;refine aAh _ rfl (.tmp 37) (.tmp 39) 31 rfl W4.heap.size 34 i0 (.int .u32 0) 1 4 underlying31 hi0 hz0 hz1 hz2 rfl (by decide) RA lc.length cA (lc.map aBk) (by simp [Act.eval]) HRA.out g4 #[.int .u32 (S:Int)] 34 (0,0) (by simp [Act.eval]) H4.out rfl (aBp _) (by have:=HN.out;have:=HEL.out;unfold maxLen;omega) (by have:=HN.out;have:=HEL.out;omega) HB.size ?_
    intro RA2 cA2 V3_5 hown hgr _
    replace H10:=aA0 (H10.out.grow hgr HNE.out);clear HNE;replace HB:=HB.grown hgr (fun k hk=>by have:=(aA8 HRA.out k hk.symm).1;omega)
    replace HRA:=aA0 (aC2 rfl hown);have HBA:=Bel.refl V3_5;have hWAs:Hid (W4.heap.size<=V3_5.heap.size):=HB.size
    skip
    refine hK.out _ _ (fun _=>hcell.out _ HB) ?_
    clear hK K hown hgr hsw H4
    (try simp only [Act.put,List.setIfInBounds_toArray,List.set_cons_zero,List.set_cons_succ])
    refine aA6.one (i:=8) (by kernel_rfl) rfl (fun K hK=>?_)
    refine aBd _ rfl (.const (.slice none 0 0)) (.tmp 42) 31 rfl V3_5.heap.size 34 i0 (.int .u32 0) 1 4 underlying31 hi0 hz0 hz1 hz2 rfl (by decide) none 0 0 [] (by simp [Act.eval]) (World.ownsRow_nil _ _ _ _) A8 le.length k8 (le.map aBk) (by simp [Act.eval]) (aBc (HM7.out _ (aA1 ((Bel.refl ((w.alloc (.cells #[.string p.name,.slice A1 p.vars.length k1,.slice A2 p.rules.length k2] 25)).alloc (.cells #[.slice A3 g.ids.length k3,.slice A4 g.ports.length k4] 29))).trans (HWR.out.trans HB)))).2) (aAu _) (by have:=HN.out;have:=HEL.out;unfold maxLen;omega) (by have:=HN.out;have:=HEL.out;omega) HBA.size ?_
    intro RB cB V4_8 hown hgr hat
    rw [List.nil_append,Nat.zero_add] at hown;rw [Nat.zero_add] at hat;have hbN:Bel V3_5 V4_8:=(Bel.refl V3_5).grown hgr (fun k hk=>by cases hk)
    have HRB:=aA0 hown;replace H10:=aA0 (H10.out.keep hbN);replace HBA:=HBA.trans hbN;replace HB:=HB.trans hbN;refine hK.out _ _ (fun _=>hcell.out _ HB) ?_
    clear hK K hown hgr hat hbN
    (try simp only [Act.put,List.setIfInBounds_toArray,List.set_cons_zero,List.set_cons_succ])
    refine aA6.one (i:=11) (by kernel_rfl) rfl (fun K hK=>?_)
    have hsw:=HB.size;have hwa:W4.heap.size<=V3_5.heap.size:=hWAs.out;refine aAh _ rfl (.tmp 43) (.tmp 45) 31 rfl V3_5.heap.size 34 i0 (.int .u32 0) 1 4 underlying31 hi0 hz0 hz1 hz2 rfl (by decide) RB le.length cB (le.map aBk) (by simp [Act.eval]) HRB.out g10 #[.int .u32 (E:Int)] 34 (0,0) (by simp [Act.eval]) H10.out rfl (aBp _) (by have:=HN.out;have:=HEL.out;unfold maxLen;omega) (by have:=HN.out;have:=HEL.out;omega) HBA.size ?_
    intro RB2 cB2 V5_11 hown hgr _
    replace HB:=HB.grown hgr (fun k hk=>by have:=(aA8 HRB.out k hk.symm).1;omega)
    replace HBA:=HBA.grown hgr (fun k hk=>by have:=(aA8 HRB.out k hk.symm).1;omega)
    replace HRB:=aA0 (aC2 rfl hown);refine hK.out _ _ (fun _=>hcell.out _ HB) ?_
    clear hK K hown hgr hsw H10 hwa
    (try simp only [Act.put,List.setIfInBounds_toArray,List.set_cons_zero,List.set_cons_succ])
    have HZL:=aA0 (HZ4.out.keep HB);have z0:=HZL.out.cell 0 (v := .slice none 0 0) rfl;have zf0:=HZL.out.frozen 0;have z1:=HZL.out.cell 1 (v := .slice none 0 0) rfl;have zf1:=HZL.out.frozen 1;have z2:=HZL.out.cell 2 (v := .slice none 0 0) rfl;have zf2:=HZL.out.frozen 2;have z3:=HZL.out.cell 3 (v := .int .i64 0) rfl;have zf3:=HZL.out.frozen 3;have z4:=HZL.out.cell 4 (v := .int .i64 0) rfl;have zf4:=HZL.out.frozen 4;have z5:=HZL.out.cell 5 (v := .int .i64 0) rfl;have zf5:=HZL.out.frozen 5;have z6:=HZL.out.cell 6 (v := .int .i64 0) rfl;have zf6:=HZL.out.frozen 6;have z7:=HZL.out.cell 7 (v := .int .u32 0) rfl;have zf7:=HZL.out.frozen 7;have zl:=HZL.out.lt;have hHeld:=hcell.out _ HB
    (refine aA6.t (v:=?_) 14 49 rfl rfl (by kernel_rfl) (fun _ _ _ h=>h) hHeld (Or.inl ⟨by rfl,?_⟩) ?_;rotate_left 1;focus (intro w' hSw;(try dsimp only at hSw);go_simp;(try with_reducible rfl);done))
    (refine aA6.one (i:=15) (by kernel_rfl) rfl (fun K hK=>?_));go_simp;refine hK.out _ _ (fun h=>absurd rfl h) ?_;clear hK K;refine aA6.done (by kernel_rfl) ?_ _;(try simp only [Act.put,List.setIfInBounds_toArray,List.set_cons_zero,List.set_cons_succ])
    go_wp2_with fail
    have HR9:Blk ((((((((V5_11.setCell ⟨w.heap.size+1+1+1,0,none⟩ (.slice RA2 (lc.length+1) cA2)).setCell ⟨w.heap.size+1+1+1,1,none⟩ (.slice RB2 (le.length+1) cB2)).setCell ⟨w.heap.size+1+1+1,2,none⟩ (.slice (some ⟨gb,0,none⟩) c2.length cap)).setCell ⟨w.heap.size+1+1+1,3,none⟩ (.int .i64 kc.steps)).setCell ⟨w.heap.size+1+1+1,4,none⟩ (.int .i64 kc.moves)).setCell ⟨w.heap.size+1+1+1,5,none⟩ (.int .i64 kc.rounds)).setCell ⟨w.heap.size+1+1+1,6,none⟩ (.int .i64 kc.begun)).setCell ⟨w.heap.size+1+1+1,7,none⟩ (.int .u32 (kc.pending:Int))) (w.heap.size+1+1+1) #[.slice RA2 (lc.length+1) cA2,.slice RB2 (le.length+1) cB2,.slice (some ⟨gb,0,none⟩) c2.length cap,.int .i64 kc.steps,.int .i64 kc.moves,.int .i64 kc.rounds,.int .i64 kc.begun,.int .u32 (kc.pending:Int)] 38:=HZL.out.trace;have y0:=HR9.cell 0 (v := .slice RA2 (lc.length+1) cA2) rfl;have y1:=HR9.cell 1 (v := .slice RB2 (le.length+1) cB2) rfl;have y2:=HR9.cell 2 (v := .slice (some ⟨gb,0,none⟩) c2.length cap) rfl;have y3:=HR9.cell 3 (v := .int .i64 kc.steps) rfl;have y4:=HR9.cell 4 (v := .int .i64 kc.moves) rfl;have y5:=HR9.cell 5 (v := .int .i64 kc.rounds) rfl;have y6:=HR9.cell 6 (v := .int .i64 kc.begun) rfl;have y7:=HR9.cell 7 (v := .int .u32 (kc.pending:Int)) rfl;refine bodyPost_ret (v := .agg #[.slice RA2 (lc.length+1) cA2,.slice RB2 (le.length+1) cB2,.slice (some ⟨gb,0,none⟩) c2.length cap,.int .i64 kc.steps,.int .i64 kc.moves,.int .i64 kc.rounds,.int .i64 kc.begun,.int .u32 (kc.pending:Int)]) (by simp [results,Tryz.results41,go_sem,y0,y1,y2,y3,y4,y5,y6,y7];try go_simp) rfl ?_
    have hag:Agr (fun k=>k=w.heap.size+1+1+1) V5_11 ((((((((V5_11.setCell ⟨w.heap.size+1+1+1,0,none⟩ (.slice RA2 (lc.length+1) cA2)).setCell ⟨w.heap.size+1+1+1,1,none⟩ (.slice RB2 (le.length+1) cB2)).setCell ⟨w.heap.size+1+1+1,2,none⟩ (.slice (some ⟨gb,0,none⟩) c2.length cap)).setCell ⟨w.heap.size+1+1+1,3,none⟩ (.int .i64 kc.steps)).setCell ⟨w.heap.size+1+1+1,4,none⟩ (.int .i64 kc.moves)).setCell ⟨w.heap.size+1+1+1,5,none⟩ (.int .i64 kc.rounds)).setCell ⟨w.heap.size+1+1+1,6,none⟩ (.int .i64 kc.begun)).setCell ⟨w.heap.size+1+1+1,7,none⟩ (.int .u32 (kc.pending:Int))):=Agr.trace (E:=fun k=>k=w.heap.size+1+1+1) rfl;have hA:=HBA.owns HRA.out;have hf:=HFIN.out V5_11 _ RA2 cA2 RB2 cB2 _ HB hA HRB.out hWAs.out hag;exact hf
  .
   (try go_simp)
   refine hK.out _ _ (fun _=>hcell.out _ (HB.alloc (.cells #[.int .u32 (E:Int)] 34))) ?_
   clear hK K
   (try simp only [Act.put,List.setIfInBounds_toArray,List.set_cons_zero,List.set_cons_succ])
   have H10:=aA0 (Blk.new V0_2 #[.int .u32 (E:Int)] 34);replace HB:=HB.alloc (.cells #[.int .u32 (E:Int)] 34);have HNE:Hid (∀ k,some k=(Value.slice RA lc.length cA).ownBlock->k≠V0_2.heap.size):=fun k hk=>by have:=aA8 HRA.out k hk;omega
   replace HRA:=aA0 (((Bel.refl V0_2).alloc (.cells #[.int .u32 (E:Int)] 34)).owns HRA.out);generalize V0_2.alloc (.cells #[.int .u32 (E:Int)] 34)=V1_10 at *;generalize hgE:V0_2.heap.size=g10 at H10 HNE ⊢;clear hgE;refine aA6.one (i:=4) (by kernel_rfl) rfl (fun K hK=>?_)
   (try go_simp)
   refine hK.out _ _ (fun _=>hcell.out _ (HB.alloc (.cells #[.int .u32 (S:Int)] 34))) ?_
   clear hK K
   (try simp only [Act.put,List.setIfInBounds_toArray,List.set_cons_zero,List.set_cons_succ])
   have H4:=aA0 (Blk.new V1_10 #[.int .u32 (S:Int)] 34);replace HB:=HB.alloc (.cells #[.int .u32 (S:Int)] 34);replace HRA:=aA0 (((Bel.refl V1_10).alloc (.cells #[.int .u32 (S:Int)] 34)).owns HRA.out);replace H10:=aA0 (H10.out.alloc (.cells #[.int .u32 (S:Int)] 34));generalize V1_10.alloc (.cells #[.int .u32 (S:Int)] 34)=V2_4 at *;generalize hgE:V1_10.heap.size=g4 at H4 ⊢;clear hgE;refine aA6.one (i:=5) (by kernel_rfl) rfl (fun K hK=>?_)
   have hsw:=HB.size;refine aAh _ rfl (.tmp 37) (.tmp 39) 31 rfl W4.heap.size 34 i0 (.int .u32 0) 1 4 underlying31 hi0 hz0 hz1 hz2 rfl (by decide) RA lc.length cA (lc.map aBk) (by simp [Act.eval]) HRA.out g4 #[.int .u32 (S:Int)] 34 (0,0) (by simp [Act.eval]) H4.out rfl (aBp _) (by have:=HN.out;have:=HEL.out;unfold maxLen;omega) (by have:=HN.out;have:=HEL.out;omega) HB.size ?_
   intro RA2 cA2 V3_5 hown hgr _
   replace H10:=aA0 (H10.out.grow hgr HNE.out);clear HNE;replace HB:=HB.grown hgr (fun k hk=>by have:=(aA8 HRA.out k hk.symm).1;omega)
   replace HRA:=aA0 (aC2 rfl hown);have HBA:=Bel.refl V3_5;have hWAs:Hid (W4.heap.size<=V3_5.heap.size):=HB.size
   skip
   refine hK.out _ _ (fun _=>hcell.out _ HB) ?_
   clear hK K hown hgr hsw H4
   (try simp only [Act.put,List.setIfInBounds_toArray,List.set_cons_zero,List.set_cons_succ])
   refine aA6.one (i:=8) (by kernel_rfl) rfl (fun K hK=>?_)
   refine aBd _ rfl (.const (.slice none 0 0)) (.tmp 42) 31 rfl V3_5.heap.size 34 i0 (.int .u32 0) 1 4 underlying31 hi0 hz0 hz1 hz2 rfl (by decide) none 0 0 [] (by simp [Act.eval]) (World.ownsRow_nil _ _ _ _) A8 le.length k8 (le.map aBk) (by simp [Act.eval]) (aBc (HM7.out _ (aA1 ((Bel.refl ((w.alloc (.cells #[.string p.name,.slice A1 p.vars.length k1,.slice A2 p.rules.length k2] 25)).alloc (.cells #[.slice A3 g.ids.length k3,.slice A4 g.ports.length k4] 29))).trans (HWR.out.trans HB)))).2) (aAu _) (by have:=HN.out;have:=HEL.out;unfold maxLen;omega) (by have:=HN.out;have:=HEL.out;omega) HBA.size ?_
   intro RB cB V4_8 hown hgr hat
   rw [List.nil_append,Nat.zero_add] at hown;rw [Nat.zero_add] at hat;have hbN:Bel V3_5 V4_8:=(Bel.refl V3_5).grown hgr (fun k hk=>by cases hk)
   have HRB:=aA0 hown;replace H10:=aA0 (H10.out.keep hbN);replace HBA:=HBA.trans hbN;replace HB:=HB.trans hbN;refine hK.out _ _ (fun _=>hcell.out _ HB) ?_
   clear hK K hown hgr hat hbN
   (try simp only [Act.put,List.setIfInBounds_toArray,List.set_cons_zero,List.set_cons_succ])
   refine aA6.one (i:=11) (by kernel_rfl) rfl (fun K hK=>?_)
   have hsw:=HB.size;have hwa:W4.heap.size<=V3_5.heap.size:=hWAs.out;refine aAh _ rfl (.tmp 43) (.tmp 45) 31 rfl V3_5.heap.size 34 i0 (.int .u32 0) 1 4 underlying31 hi0 hz0 hz1 hz2 rfl (by decide) RB le.length cB (le.map aBk) (by simp [Act.eval]) HRB.out g10 #[.int .u32 (E:Int)] 34 (0,0) (by simp [Act.eval]) H10.out rfl (aBp _) (by have:=HN.out;have:=HEL.out;unfold maxLen;omega) (by have:=HN.out;have:=HEL.out;omega) HBA.size ?_
   intro RB2 cB2 V5_11 hown hgr _
   replace HB:=HB.grown hgr (fun k hk=>by have:=(aA8 HRB.out k hk.symm).1;omega)
   replace HBA:=HBA.grown hgr (fun k hk=>by have:=(aA8 HRB.out k hk.symm).1;omega)
   replace HRB:=aA0 (aC2 rfl hown);refine hK.out _ _ (fun _=>hcell.out _ HB) ?_
   clear hK K hown hgr hsw H10 hwa
   (try simp only [Act.put,List.setIfInBounds_toArray,List.set_cons_zero,List.set_cons_succ])
   have HZL:=aA0 (HZ4.out.keep HB);have z0:=HZL.out.cell 0 (v := .slice none 0 0) rfl;have zf0:=HZL.out.frozen 0;have z1:=HZL.out.cell 1 (v := .slice none 0 0) rfl;have zf1:=HZL.out.frozen 1;have z2:=HZL.out.cell 2 (v := .slice none 0 0) rfl;have zf2:=HZL.out.frozen 2;have z3:=HZL.out.cell 3 (v := .int .i64 0) rfl;have zf3:=HZL.out.frozen 3;have z4:=HZL.out.cell 4 (v := .int .i64 0) rfl;have zf4:=HZL.out.frozen 4;have z5:=HZL.out.cell 5 (v := .int .i64 0) rfl;have zf5:=HZL.out.frozen 5;have z6:=HZL.out.cell 6 (v := .int .i64 0) rfl;have zf6:=HZL.out.frozen 6;have z7:=HZL.out.cell 7 (v := .int .u32 0) rfl;have zf7:=HZL.out.frozen 7;have zl:=HZL.out.lt;have hHeld:=hcell.out _ HB
   (refine aA6.t (v:=?_) 14 49 rfl rfl (by kernel_rfl) (fun _ _ _ h=>h) hHeld (Or.inl ⟨by rfl,?_⟩) ?_;rotate_left 1;focus (intro w' hSw;(try dsimp only at hSw);go_simp;(try with_reducible rfl);done))
   (refine aA6.one (i:=15) (by kernel_rfl) rfl (fun K hK=>?_));go_simp;refine hK.out _ _ (fun h=>absurd rfl h) ?_;clear hK K;refine aA6.done (by kernel_rfl) ?_ _;(try simp only [Act.put,List.setIfInBounds_toArray,List.set_cons_zero,List.set_cons_succ])
   go_wp2_with fail
   have HR9:Blk ((((((((V5_11.setCell ⟨w.heap.size+1+1+1,0,none⟩ (.slice RA2 (lc.length+1) cA2)).setCell ⟨w.heap.size+1+1+1,1,none⟩ (.slice RB2 (le.length+1) cB2)).setCell ⟨w.heap.size+1+1+1,2,none⟩ (.slice (some ⟨gb,0,none⟩) c2.length cap)).setCell ⟨w.heap.size+1+1+1,3,none⟩ (.int .i64 kc.steps)).setCell ⟨w.heap.size+1+1+1,4,none⟩ (.int .i64 kc.moves)).setCell ⟨w.heap.size+1+1+1,5,none⟩ (.int .i64 kc.rounds)).setCell ⟨w.heap.size+1+1+1,6,none⟩ (.int .i64 kc.begun)).setCell ⟨w.heap.size+1+1+1,7,none⟩ (.int .u32 (kc.pending:Int))) (w.heap.size+1+1+1) #[.slice RA2 (lc.length+1) cA2,.slice RB2 (le.length+1) cB2,.slice (some ⟨gb,0,none⟩) c2.length cap,.int .i64 kc.steps,.int .i64 kc.moves,.int .i64 kc.rounds,.int .i64 kc.begun,.int .u32 (kc.pending:Int)] 38:=HZL.out.trace;have y0:=HR9.cell 0 (v := .slice RA2 (lc.length+1) cA2) rfl;have y1:=HR9.cell 1 (v := .slice RB2 (le.length+1) cB2) rfl;have y2:=HR9.cell 2 (v := .slice (some ⟨gb,0,none⟩) c2.length cap) rfl;have y3:=HR9.cell 3 (v := .int .i64 kc.steps) rfl;have y4:=HR9.cell 4 (v := .int .i64 kc.moves) rfl;have y5:=HR9.cell 5 (v := .int .i64 kc.rounds) rfl;have y6:=HR9.cell 6 (v := .int .i64 kc.begun) rfl;have y7:=HR9.cell 7 (v := .int .u32 (kc.pending:Int)) rfl;refine bodyPost_ret (v := .agg #[.slice RA2 (lc.length+1) cA2,.slice RB2 (le.length+1) cB2,.slice (some ⟨gb,0,none⟩) c2.length cap,.int .i64 kc.steps,.int .i64 kc.moves,.int .i64 kc.rounds,.int .i64 kc.begun,.int .u32 (kc.pending:Int)]) (by simp [results,Tryz.results41,go_sem,y0,y1,y2,y3,y4,y5,y6,y7];try go_simp) rfl ?_
   have hag:Agr (fun k=>k=w.heap.size+1+1+1) V5_11 ((((((((V5_11.setCell ⟨w.heap.size+1+1+1,0,none⟩ (.slice RA2 (lc.length+1) cA2)).setCell ⟨w.heap.size+1+1+1,1,none⟩ (.slice RB2 (le.length+1) cB2)).setCell ⟨w.heap.size+1+1+1,2,none⟩ (.slice (some ⟨gb,0,none⟩) c2.length cap)).setCell ⟨w.heap.size+1+1+1,3,none⟩ (.int .i64 kc.steps)).setCell ⟨w.heap.size+1+1+1,4,none⟩ (.int .i64 kc.moves)).setCell ⟨w.heap.size+1+1+1,5,none⟩ (.int .i64 kc.rounds)).setCell ⟨w.heap.size+1+1+1,6,none⟩ (.int .i64 kc.begun)).setCell ⟨w.heap.size+1+1+1,7,none⟩ (.int .u32 (kc.pending:Int))):=Agr.trace (E:=fun k=>k=w.heap.size+1+1+1) rfl;have hA:=HBA.owns HRA.out;have hf:=HFIN.out V5_11 _ RA2 cA2 RB2 cB2 _ HB hA HRB.out hWAs.out hag;exact hf
 .
  (try go_simp)
  replace HB:=((Bel.refl W4).alloc (.cells #[.int .u32 (S:Int)] 34)).drew;refine hK.out _ _ (fun _=>hcell.out _ HB) ?_
  clear hK K
  (try simp only [Act.put,List.setIfInBounds_toArray,List.set_cons_zero,List.set_cons_succ])
  have H4:=aA0 ((Blk.new W4 #[.int .u32 (S:Int)] 34).drew);generalize (W4.alloc (.cells #[.int .u32 (S:Int)] 34)).drew=V0_4 at *;generalize hgE:W4.heap.size=g4 at H4 ⊢;clear hgE;refine aA6.two (i:=2) (j:=10) (by kernel_rfl) rfl rfl (fun K hK=>?_) (fun K hK=>?_)
  .refine aBd _ rfl (.const (.slice none 0 0)) (.tmp 36) 31 rfl W4.heap.size 34 i0 (.int .u32 0) 1 4 underlying31 hi0 hz0 hz1 hz2 rfl (by decide) none 0 0 [] (by simp [Act.eval]) (World.ownsRow_nil _ _ _ _) A7 lc.length k7 (lc.map aBk) (by simp [Act.eval]) (aBc (HM7.out _ (aA1 ((Bel.refl ((w.alloc (.cells #[.string p.name,.slice A1 p.vars.length k1,.slice A2 p.rules.length k2] 25)).alloc (.cells #[.slice A3 g.ids.length k3,.slice A4 g.ports.length k4] 29))).trans (HWR.out.trans HB)))).1) (aAu _) (by have:=HN.out;have:=HEL.out;unfold maxLen;omega) (by have:=HN.out;have:=HEL.out;omega) HB.size ?_
   intro RA cA V1_2 hown hgr hat
   rw [List.nil_append,Nat.zero_add] at hown;rw [Nat.zero_add] at hat;have hbN:Bel V0_4 V1_2:=(Bel.refl V0_4).grown hgr (fun k hk=>by cases hk)
   have HRA:=aA0 hown;replace H4:=aA0 (H4.out.keep hbN);replace HB:=HB.trans hbN;refine hK.out _ _ (fun _=>hcell.out _ HB) ?_
   clear hK K hown hgr hat hbN
   (try simp only [Act.put,List.setIfInBounds_toArray,List.set_cons_zero,List.set_cons_succ])
   refine aA6.two (i:=5) (j:=10) (by kernel_rfl) rfl rfl (fun K hK=>?_) (fun K hK=>?_)
   .have hsw:=HB.size
    refine aAh _ rfl (.tmp 37) (.tmp 39) 31 rfl W4.heap.size 34 i0 (.int .u32 0) 1 4 underlying31 hi0 hz0 hz1 hz2 rfl (by decide) RA lc.length cA (lc.map aBk) (by simp [Act.eval]) HRA.out g4 #[.int .u32 (S:Int)] 34 (0,0) (by simp [Act.eval]) H4.out rfl (aBp _) (by have:=HN.out;have:=HEL.out;unfold maxLen;omega) (by have:=HN.out;have:=HEL.out;omega) HB.size ?_
    intro RA2 cA2 V2_5 hown hgr _
    replace HB:=HB.grown hgr (fun k hk=>by have:=(aA8 HRA.out k hk.symm).1;omega)
    replace HRA:=aA0 (aC2 rfl hown);have HBA:=Bel.refl V2_5;have hWAs:Hid (W4.heap.size<=V2_5.heap.size):=HB.size
    skip
    refine hK.out _ _ (fun _=>hcell.out _ HB) ?_
    clear hK K hown hgr hsw H4
    (try simp only [Act.put,List.setIfInBounds_toArray,List.set_cons_zero,List.set_cons_succ])
    refine aA6.two (i:=8) (j:=10) (by kernel_rfl) rfl rfl (fun K hK=>?_) (fun K hK=>?_)
    .refine aBd _ rfl (.const (.slice none 0 0)) (.tmp 42) 31 rfl V2_5.heap.size 34 i0 (.int .u32 0) 1 4 underlying31 hi0 hz0 hz1 hz2 rfl (by decide) none 0 0 [] (by simp [Act.eval]) (World.ownsRow_nil _ _ _ _) A8 le.length k8 (le.map aBk) (by simp [Act.eval]) (aBc (HM7.out _ (aA1 ((Bel.refl ((w.alloc (.cells #[.string p.name,.slice A1 p.vars.length k1,.slice A2 p.rules.length k2] 25)).alloc (.cells #[.slice A3 g.ids.length k3,.slice A4 g.ports.length k4] 29))).trans (HWR.out.trans HB)))).2) (aAu _) (by have:=HN.out;have:=HEL.out;unfold maxLen;omega) (by have:=HN.out;have:=HEL.out;omega) HBA.size ?_
     intro RB cB V3_8 hown hgr hat
     rw [List.nil_append,Nat.zero_add] at hown;rw [Nat.zero_add] at hat;have hbN:Bel V2_5 V3_8:=(Bel.refl V2_5).grown hgr (fun k hk=>by cases hk)
     have HRB:=aA0 hown;replace HBA:=HBA.trans hbN;replace HB:=HB.trans hbN;refine hK.out _ _ (fun _=>hcell.out _ HB) ?_
     clear hK K hown hgr hat hbN
     (try simp only [Act.put,List.setIfInBounds_toArray,List.set_cons_zero,List.set_cons_succ])
     refine aA6.one (i:=10) (by kernel_rfl) rfl (fun K hK=>?_)
     (try go_simp)
     refine hK.out _ _ (fun _=>hcell.out _ (HB.alloc (.cells #[.int .u32 (E:Int)] 34))) ?_
     clear hK K
     (try simp only [Act.put,List.setIfInBounds_toArray,List.set_cons_zero,List.set_cons_succ])
     have H10:=aA0 (Blk.new V3_8 #[.int .u32 (E:Int)] 34);replace HB:=HB.alloc (.cells #[.int .u32 (E:Int)] 34);replace HBA:=HBA.alloc (.cells #[.int .u32 (E:Int)] 34);replace HRB:=aA0 (((Bel.refl V3_8).alloc (.cells #[.int .u32 (E:Int)] 34)).owns HRB.out);generalize V3_8.alloc (.cells #[.int .u32 (E:Int)] 34)=V4_10 at *;generalize hgE:V3_8.heap.size=g10 at H10 ⊢;clear hgE;refine aA6.one (i:=11) (by kernel_rfl) rfl (fun K hK=>?_)
     have hsw:=HB.size;have hwa:W4.heap.size<=V2_5.heap.size:=hWAs.out;refine aAh _ rfl (.tmp 43) (.tmp 45) 31 rfl V2_5.heap.size 34 i0 (.int .u32 0) 1 4 underlying31 hi0 hz0 hz1 hz2 rfl (by decide) RB le.length cB (le.map aBk) (by simp [Act.eval]) HRB.out g10 #[.int .u32 (E:Int)] 34 (0,0) (by simp [Act.eval]) H10.out rfl (aBp _) (by have:=HN.out;have:=HEL.out;unfold maxLen;omega) (by have:=HN.out;have:=HEL.out;omega) HBA.size ?_
     intro RB2 cB2 V5_11 hown hgr _
     replace HB:=HB.grown hgr (fun k hk=>by have:=(aA8 HRB.out k hk.symm).1;omega)
     replace HBA:=HBA.grown hgr (fun k hk=>by have:=(aA8 HRB.out k hk.symm).1;omega)
     replace HRB:=aA0 (aC2 rfl hown);refine hK.out _ _ (fun _=>hcell.out _ HB) ?_
     clear hK K hown hgr hsw H10 hwa
     (try simp only [Act.put,List.setIfInBounds_toArray,List.set_cons_zero,List.set_cons_succ])
     have HZL:=aA0 (HZ4.out.keep HB);have z0:=HZL.out.cell 0 (v := .slice none 0 0) rfl;have zf0:=HZL.out.frozen 0;have z1:=HZL.out.cell 1 (v := .slice none 0 0) rfl;have zf1:=HZL.out.frozen 1;have z2:=HZL.out.cell 2 (v := .slice none 0 0) rfl;have zf2:=HZL.out.frozen 2;have z3:=HZL.out.cell 3 (v := .int .i64 0) rfl;have zf3:=HZL.out.frozen 3;have z4:=HZL.out.cell 4 (v := .int .i64 0) rfl;have zf4:=HZL.out.frozen 4;have z5:=HZL.out.cell 5 (v := .int .i64 0) rfl;have zf5:=HZL.out.frozen 5;have z6:=HZL.out.cell 6 (v := .int .i64 0) rfl;have zf6:=HZL.out.frozen 6;have z7:=HZL.out.cell 7 (v := .int .u32 0) rfl;have zf7:=HZL.out.frozen 7;have zl:=HZL.out.lt;have hHeld:=hcell.out _ HB
     (refine aA6.t (v:=?_) 14 49 rfl rfl (by kernel_rfl) (fun _ _ _ h=>h) hHeld (Or.inl ⟨by rfl,?_⟩) ?_;rotate_left 1;focus (intro w' hSw;(try dsimp only at hSw);go_simp;(try with_reducible rfl);done))
     (refine aA6.one (i:=15) (by kernel_rfl) rfl (fun K hK=>?_));go_simp;refine hK.out _ _ (fun h=>absurd rfl h) ?_;clear hK K;refine aA6.done (by kernel_rfl) ?_ _;(try simp only [Act.put,List.setIfInBounds_toArray,List.set_cons_zero,List.set_cons_succ])
     go_wp2_with fail
     have HR9:Blk ((((((((V5_11.setCell ⟨w.heap.size+1+1+1,0,none⟩ (.slice RA2 (lc.length+1) cA2)).setCell ⟨w.heap.size+1+1+1,1,none⟩ (.slice RB2 (le.length+1) cB2)).setCell ⟨w.heap.size+1+1+1,2,none⟩ (.slice (some ⟨gb,0,none⟩) c2.length cap)).setCell ⟨w.heap.size+1+1+1,3,none⟩ (.int .i64 kc.steps)).setCell ⟨w.heap.size+1+1+1,4,none⟩ (.int .i64 kc.moves)).setCell ⟨w.heap.size+1+1+1,5,none⟩ (.int .i64 kc.rounds)).setCell ⟨w.heap.size+1+1+1,6,none⟩ (.int .i64 kc.begun)).setCell ⟨w.heap.size+1+1+1,7,none⟩ (.int .u32 (kc.pending:Int))) (w.heap.size+1+1+1) #[.slice RA2 (lc.length+1) cA2,.slice RB2 (le.length+1) cB2,.slice (some ⟨gb,0,none⟩) c2.length cap,.int .i64 kc.steps,.int .i64 kc.moves,.int .i64 kc.rounds,.int .i64 kc.begun,.int .u32 (kc.pending:Int)] 38:=HZL.out.trace;have y0:=HR9.cell 0 (v := .slice RA2 (lc.length+1) cA2) rfl;have y1:=HR9.cell 1 (v := .slice RB2 (le.length+1) cB2) rfl;have y2:=HR9.cell 2 (v := .slice (some ⟨gb,0,none⟩) c2.length cap) rfl;have y3:=HR9.cell 3 (v := .int .i64 kc.steps) rfl;have y4:=HR9.cell 4 (v := .int .i64 kc.moves) rfl;have y5:=HR9.cell 5 (v := .int .i64 kc.rounds) rfl;have y6:=HR9.cell 6 (v := .int .i64 kc.begun) rfl;have y7:=HR9.cell 7 (v := .int .u32 (kc.pending:Int)) rfl;refine bodyPost_ret (v := .agg #[.slice RA2 (lc.length+1) cA2,.slice RB2 (le.length+1) cB2,.slice (some ⟨gb,0,none⟩) c2.length cap,.int .i64 kc.steps,.int .i64 kc.moves,.int .i64 kc.rounds,.int .i64 kc.begun,.int .u32 (kc.pending:Int)]) (by simp [results,Tryz.results41,go_sem,y0,y1,y2,y3,y4,y5,y6,y7];try go_simp) rfl ?_
     have hag:Agr (fun k=>k=w.heap.size+1+1+1) V5_11 ((((((((V5_11.setCell ⟨w.heap.size+1+1+1,0,none⟩ (.slice RA2 (lc.length+1) cA2)).setCell ⟨w.heap.size+1+1+1,1,none⟩ (.slice RB2 (le.length+1) cB2)).setCell ⟨w.heap.size+1+1+1,2,none⟩ (.slice (some ⟨gb,0,none⟩) c2.length cap)).setCell ⟨w.heap.size+1+1+1,3,none⟩ (.int .i64 kc.steps)).setCell ⟨w.heap.size+1+1+1,4,none⟩ (.int .i64 kc.moves)).setCell ⟨w.heap.size+1+1+1,5,none⟩ (.int .i64 kc.rounds)).setCell ⟨w.heap.size+1+1+1,6,none⟩ (.int .i64 kc.begun)).setCell ⟨w.heap.size+1+1+1,7,none⟩ (.int .u32 (kc.pending:Int))):=Agr.trace (E:=fun k=>k=w.heap.size+1+1+1) rfl;have hA:=HBA.owns HRA.out;have hf:=HFIN.out V5_11 _ RA2 cA2 RB2 cB2 _ HB hA HRB.out hWAs.out hag;exact hf
    .
     (try go_simp)
     refine hK.out _ _ (fun _=>hcell.out _ (HB.alloc (.cells #[.int .u32 (E:Int)] 34))) ?_
     clear hK K
     (try simp only [Act.put,List.setIfInBounds_toArray,List.set_cons_zero,List.set_cons_succ])
     have H10:=aA0 (Blk.new V2_5 #[.int .u32 (E:Int)] 34);replace HB:=HB.alloc (.cells #[.int .u32 (E:Int)] 34);replace HBA:=HBA.alloc (.cells #[.int .u32 (E:Int)] 34);generalize V2_5.alloc (.cells #[.int .u32 (E:Int)] 34)=V3_10 at *;generalize hgE:V2_5.heap.size=g10 at H10 ⊢;clear hgE;refine aA6.one (i:=8) (by kernel_rfl) rfl (fun K hK=>?_)
     refine aBd _ rfl (.const (.slice none 0 0)) (.tmp 42) 31 rfl V2_5.heap.size 34 i0 (.int .u32 0) 1 4 underlying31 hi0 hz0 hz1 hz2 rfl (by decide) none 0 0 [] (by simp [Act.eval]) (World.ownsRow_nil _ _ _ _) A8 le.length k8 (le.map aBk) (by simp [Act.eval]) (aBc (HM7.out _ (aA1 ((Bel.refl ((w.alloc (.cells #[.string p.name,.slice A1 p.vars.length k1,.slice A2 p.rules.length k2] 25)).alloc (.cells #[.slice A3 g.ids.length k3,.slice A4 g.ports.length k4] 29))).trans (HWR.out.trans HB)))).2) (aAu _) (by have:=HN.out;have:=HEL.out;unfold maxLen;omega) (by have:=HN.out;have:=HEL.out;omega) HBA.size ?_
     intro RB cB V4_8 hown hgr hat
     rw [List.nil_append,Nat.zero_add] at hown;rw [Nat.zero_add] at hat;have hbN:Bel V3_10 V4_8:=(Bel.refl V3_10).grown hgr (fun k hk=>by cases hk)
     have HRB:=aA0 hown;replace H10:=aA0 (H10.out.keep hbN);replace HBA:=HBA.trans hbN;replace HB:=HB.trans hbN;refine hK.out _ _ (fun _=>hcell.out _ HB) ?_
     clear hK K hown hgr hat hbN
     (try simp only [Act.put,List.setIfInBounds_toArray,List.set_cons_zero,List.set_cons_succ])
     refine aA6.one (i:=11) (by kernel_rfl) rfl (fun K hK=>?_)
     have hsw:=HB.size;have hwa:W4.heap.size<=V2_5.heap.size:=hWAs.out;refine aAh _ rfl (.tmp 43) (.tmp 45) 31 rfl V2_5.heap.size 34 i0 (.int .u32 0) 1 4 underlying31 hi0 hz0 hz1 hz2 rfl (by decide) RB le.length cB (le.map aBk) (by simp [Act.eval]) HRB.out g10 #[.int .u32 (E:Int)] 34 (0,0) (by simp [Act.eval]) H10.out rfl (aBp _) (by have:=HN.out;have:=HEL.out;unfold maxLen;omega) (by have:=HN.out;have:=HEL.out;omega) HBA.size ?_
     intro RB2 cB2 V5_11 hown hgr _
     replace HB:=HB.grown hgr (fun k hk=>by have:=(aA8 HRB.out k hk.symm).1;omega)
     replace HBA:=HBA.grown hgr (fun k hk=>by have:=(aA8 HRB.out k hk.symm).1;omega)
     replace HRB:=aA0 (aC2 rfl hown);refine hK.out _ _ (fun _=>hcell.out _ HB) ?_
     clear hK K hown hgr hsw H10 hwa
     (try simp only [Act.put,List.setIfInBounds_toArray,List.set_cons_zero,List.set_cons_succ])
     have HZL:=aA0 (HZ4.out.keep HB);have z0:=HZL.out.cell 0 (v := .slice none 0 0) rfl;have zf0:=HZL.out.frozen 0;have z1:=HZL.out.cell 1 (v := .slice none 0 0) rfl;have zf1:=HZL.out.frozen 1;have z2:=HZL.out.cell 2 (v := .slice none 0 0) rfl;have zf2:=HZL.out.frozen 2;have z3:=HZL.out.cell 3 (v := .int .i64 0) rfl;have zf3:=HZL.out.frozen 3;have z4:=HZL.out.cell 4 (v := .int .i64 0) rfl;have zf4:=HZL.out.frozen 4;have z5:=HZL.out.cell 5 (v := .int .i64 0) rfl;have zf5:=HZL.out.frozen 5;have z6:=HZL.out.cell 6 (v := .int .i64 0) rfl;have zf6:=HZL.out.frozen 6;have z7:=HZL.out.cell 7 (v := .int .u32 0) rfl;have zf7:=HZL.out.frozen 7;have zl:=HZL.out.lt;have hHeld:=hcell.out _ HB
     (refine aA6.t (v:=?_) 14 49 rfl rfl (by kernel_rfl) (fun _ _ _ h=>h) hHeld (Or.inl ⟨by rfl,?_⟩) ?_;rotate_left 1;focus (intro w' hSw;(try dsimp only at hSw);go_simp;(try with_reducible rfl);done))
     (refine aA6.one (i:=15) (by kernel_rfl) rfl (fun K hK=>?_));go_simp;refine hK.out _ _ (fun h=>absurd rfl h) ?_;clear hK K;refine aA6.done (by kernel_rfl) ?_ _;(try simp only [Act.put,List.setIfInBounds_toArray,List.set_cons_zero,List.set_cons_succ])
     go_wp2_with fail
     have HR9:Blk ((((((((V5_11.setCell ⟨w.heap.size+1+1+1,0,none⟩ (.slice RA2 (lc.length+1) cA2)).setCell ⟨w.heap.size+1+1+1,1,none⟩ (.slice RB2 (le.length+1) cB2)).setCell ⟨w.heap.size+1+1+1,2,none⟩ (.slice (some ⟨gb,0,none⟩) c2.length cap)).setCell ⟨w.heap.size+1+1+1,3,none⟩ (.int .i64 kc.steps)).setCell ⟨w.heap.size+1+1+1,4,none⟩ (.int .i64 kc.moves)).setCell ⟨w.heap.size+1+1+1,5,none⟩ (.int .i64 kc.rounds)).setCell ⟨w.heap.size+1+1+1,6,none⟩ (.int .i64 kc.begun)).setCell ⟨w.heap.size+1+1+1,7,none⟩ (.int .u32 (kc.pending:Int))) (w.heap.size+1+1+1) #[.slice RA2 (lc.length+1) cA2,.slice RB2 (le.length+1) cB2,.slice (some ⟨gb,0,none⟩) c2.length cap,.int .i64 kc.steps,.int .i64 kc.moves,.int .i64 kc.rounds,.int .i64 kc.begun,.int .u32 (kc.pending:Int)] 38:=HZL.out.trace;have y0:=HR9.cell 0 (v := .slice RA2 (lc.length+1) cA2) rfl;have y1:=HR9.cell 1 (v := .slice RB2 (le.length+1) cB2) rfl;have y2:=HR9.cell 2 (v := .slice (some ⟨gb,0,none⟩) c2.length cap) rfl;have y3:=HR9.cell 3 (v := .int .i64 kc.steps) rfl;have y4:=HR9.cell 4 (v := .int .i64 kc.moves) rfl;have y5:=HR9.cell 5 (v := .int .i64 kc.rounds) rfl;have y6:=HR9.cell 6 (v := .int .i64 kc.begun) rfl;have y7:=HR9.cell 7 (v := .int .u32 (kc.pending:Int)) rfl;refine bodyPost_ret (v := .agg #[.slice RA2 (lc.length+1) cA2,.slice RB2 (le.length+1) cB2,.slice (some ⟨gb,0,none⟩) c2.length cap,.int .i64 kc.steps,.int .i64 kc.moves,.int .i64 kc.rounds,.int .i64 kc.begun,.int .u32 (kc.pending:Int)]) (by simp [results,Tryz.results41,go_sem,y0,y1,y2,y3,y4,y5,y6,y7];try go_simp) rfl ?_
     have hag:Agr (fun k=>k=w.heap.size+1+1+1) V5_11 ((((((((V5_11.setCell ⟨w.heap.size+1+1+1,0,none⟩ (.slice RA2 (lc.length+1) cA2)).setCell ⟨w.heap.size+1+1+1,1,none⟩ (.slice RB2 (le.length+1) cB2)).setCell ⟨w.heap.size+1+1+1,2,none⟩ (.slice (some ⟨gb,0,none⟩) c2.length cap)).setCell ⟨w.heap.size+1+1+1,3,none⟩ (.int .i64 kc.steps)).setCell ⟨w.heap.size+1+1+1,4,none⟩ (.int .i64 kc.moves)).setCell ⟨w.heap.size+1+1+1,5,none⟩ (.int .i64 kc.rounds)).setCell ⟨w.heap.size+1+1+1,6,none⟩ (.int .i64 kc.begun)).setCell ⟨w.heap.size+1+1+1,7,none⟩ (.int .u32 (kc.pending:Int))):=Agr.trace (E:=fun k=>k=w.heap.size+1+1+1) rfl;have hA:=HBA.owns HRA.out;have hf:=HFIN.out V5_11 _ RA2 cA2 RB2 cB2 _ HB hA HRB.out hWAs.out hag;exact hf
   .
    (try go_simp)
    refine hK.out _ _ (fun _=>hcell.out _ (HB.alloc (.cells #[.int .u32 (E:Int)] 34))) ?_
    clear hK K
    (try simp only [Act.put,List.setIfInBounds_toArray,List.set_cons_zero,List.set_cons_succ])
    have H10:=aA0 (Blk.new V1_2 #[.int .u32 (E:Int)] 34);replace HB:=HB.alloc (.cells #[.int .u32 (E:Int)] 34);have HNE:Hid (∀ k,some k=(Value.slice RA lc.length cA).ownBlock->k≠V1_2.heap.size):=fun k hk=>by have:=aA8 HRA.out k hk;omega
    replace HRA:=aA0 (((Bel.refl V1_2).alloc (.cells #[.int .u32 (E:Int)] 34)).owns HRA.out);replace H4:=aA0 (H4.out.alloc (.cells #[.int .u32 (E:Int)] 34));generalize V1_2.alloc (.cells #[.int .u32 (E:Int)] 34)=V2_10 at *;generalize hgE:V1_2.heap.size=g10 at H10 HNE ⊢;clear hgE;refine aA6.one (i:=5) (by kernel_rfl) rfl (fun K hK=>?_)
    have hsw:=HB.size;refine aAh _ rfl (.tmp 37) (.tmp 39) 31 rfl W4.heap.size 34 i0 (.int .u32 0) 1 4 underlying31 hi0 hz0 hz1 hz2 rfl (by decide) RA lc.length cA (lc.map aBk) (by simp [Act.eval]) HRA.out g4 #[.int .u32 (S:Int)] 34 (0,0) (by simp [Act.eval]) H4.out rfl (aBp _) (by have:=HN.out;have:=HEL.out;unfold maxLen;omega) (by have:=HN.out;have:=HEL.out;omega) HB.size ?_
    intro RA2 cA2 V3_5 hown hgr _
    replace H10:=aA0 (H10.out.grow hgr HNE.out);clear HNE;replace HB:=HB.grown hgr (fun k hk=>by have:=(aA8 HRA.out k hk.symm).1;omega)
    replace HRA:=aA0 (aC2 rfl hown);have HBA:=Bel.refl V3_5;have hWAs:Hid (W4.heap.size<=V3_5.heap.size):=HB.size
    skip
    refine hK.out _ _ (fun _=>hcell.out _ HB) ?_
    clear hK K hown hgr hsw H4
    (try simp only [Act.put,List.setIfInBounds_toArray,List.set_cons_zero,List.set_cons_succ])
    refine aA6.one (i:=8) (by kernel_rfl) rfl (fun K hK=>?_)
    refine aBd _ rfl (.const (.slice none 0 0)) (.tmp 42) 31 rfl V3_5.heap.size 34 i0 (.int .u32 0) 1 4 underlying31 hi0 hz0 hz1 hz2 rfl (by decide) none 0 0 [] (by simp [Act.eval]) (World.ownsRow_nil _ _ _ _) A8 le.length k8 (le.map aBk) (by simp [Act.eval]) (aBc (HM7.out _ (aA1 ((Bel.refl ((w.alloc (.cells #[.string p.name,.slice A1 p.vars.length k1,.slice A2 p.rules.length k2] 25)).alloc (.cells #[.slice A3 g.ids.length k3,.slice A4 g.ports.length k4] 29))).trans (HWR.out.trans HB)))).2) (aAu _) (by have:=HN.out;have:=HEL.out;unfold maxLen;omega) (by have:=HN.out;have:=HEL.out;omega) HBA.size ?_
    intro RB cB V4_8 hown hgr hat
    rw [List.nil_append,Nat.zero_add] at hown;rw [Nat.zero_add] at hat;have hbN:Bel V3_5 V4_8:=(Bel.refl V3_5).grown hgr (fun k hk=>by cases hk)
    have HRB:=aA0 hown;replace H10:=aA0 (H10.out.keep hbN);replace HBA:=HBA.trans hbN;replace HB:=HB.trans hbN;refine hK.out _ _ (fun _=>hcell.out _ HB) ?_
    clear hK K hown hgr hat hbN
    (try simp only [Act.put,List.setIfInBounds_toArray,List.set_cons_zero,List.set_cons_succ])
    refine aA6.one (i:=11) (by kernel_rfl) rfl (fun K hK=>?_)
    have hsw:=HB.size;have hwa:W4.heap.size<=V3_5.heap.size:=hWAs.out;refine aAh _ rfl (.tmp 43) (.tmp 45) 31 rfl V3_5.heap.size 34 i0 (.int .u32 0) 1 4 underlying31 hi0 hz0 hz1 hz2 rfl (by decide) RB le.length cB (le.map aBk) (by simp [Act.eval]) HRB.out g10 #[.int .u32 (E:Int)] 34 (0,0) (by simp [Act.eval]) H10.out rfl (aBp _) (by have:=HN.out;have:=HEL.out;unfold maxLen;omega) (by have:=HN.out;have:=HEL.out;omega) HBA.size ?_
    intro RB2 cB2 V5_11 hown hgr _
    replace HB:=HB.grown hgr (fun k hk=>by have:=(aA8 HRB.out k hk.symm).1;omega)
    replace HBA:=HBA.grown hgr (fun k hk=>by have:=(aA8 HRB.out k hk.symm).1;omega)
    replace HRB:=aA0 (aC2 rfl hown);refine hK.out _ _ (fun _=>hcell.out _ HB) ?_
    clear hK K hown hgr hsw H10 hwa
    (try simp only [Act.put,List.setIfInBounds_toArray,List.set_cons_zero,List.set_cons_succ])
    have HZL:=aA0 (HZ4.out.keep HB);have z0:=HZL.out.cell 0 (v := .slice none 0 0) rfl;have zf0:=HZL.out.frozen 0;have z1:=HZL.out.cell 1 (v := .slice none 0 0) rfl;have zf1:=HZL.out.frozen 1;have z2:=HZL.out.cell 2 (v := .slice none 0 0) rfl;have zf2:=HZL.out.frozen 2;have z3:=HZL.out.cell 3 (v := .int .i64 0) rfl;have zf3:=HZL.out.frozen 3;have z4:=HZL.out.cell 4 (v := .int .i64 0) rfl;have zf4:=HZL.out.frozen 4;have z5:=HZL.out.cell 5 (v := .int .i64 0) rfl;have zf5:=HZL.out.frozen 5;have z6:=HZL.out.cell 6 (v := .int .i64 0) rfl;have zf6:=HZL.out.frozen 6;have z7:=HZL.out.cell 7 (v := .int .u32 0) rfl;have zf7:=HZL.out.frozen 7;have zl:=HZL.out.lt;have hHeld:=hcell.out _ HB
    (refine aA6.t (v:=?_) 14 49 rfl rfl (by kernel_rfl) (fun _ _ _ h=>h) hHeld (Or.inl ⟨by rfl,?_⟩) ?_;rotate_left 1;focus (intro w' hSw;(try dsimp only at hSw);go_simp;(try with_reducible rfl);done))
    (refine aA6.one (i:=15) (by kernel_rfl) rfl (fun K hK=>?_));go_simp;refine hK.out _ _ (fun h=>absurd rfl h) ?_;clear hK K;refine aA6.done (by kernel_rfl) ?_ _;(try simp only [Act.put,List.setIfInBounds_toArray,List.set_cons_zero,List.set_cons_succ])
    go_wp2_with fail
    have HR9:Blk ((((((((V5_11.setCell ⟨w.heap.size+1+1+1,0,none⟩ (.slice RA2 (lc.length+1) cA2)).setCell ⟨w.heap.size+1+1+1,1,none⟩ (.slice RB2 (le.length+1) cB2)).setCell ⟨w.heap.size+1+1+1,2,none⟩ (.slice (some ⟨gb,0,none⟩) c2.length cap)).setCell ⟨w.heap.size+1+1+1,3,none⟩ (.int .i64 kc.steps)).setCell ⟨w.heap.size+1+1+1,4,none⟩ (.int .i64 kc.moves)).setCell ⟨w.heap.size+1+1+1,5,none⟩ (.int .i64 kc.rounds)).setCell ⟨w.heap.size+1+1+1,6,none⟩ (.int .i64 kc.begun)).setCell ⟨w.heap.size+1+1+1,7,none⟩ (.int .u32 (kc.pending:Int))) (w.heap.size+1+1+1) #[.slice RA2 (lc.length+1) cA2,.slice RB2 (le.length+1) cB2,.slice (some ⟨gb,0,none⟩) c2.length cap,.int .i64 kc.steps,.int .i64 kc.moves,.int .i64 kc.rounds,.int .i64 kc.begun,.int .u32 (kc.pending:Int)] 38:=HZL.out.trace;have y0:=HR9.cell 0 (v := .slice RA2 (lc.length+1) cA2) rfl;have y1:=HR9.cell 1 (v := .slice RB2 (le.length+1) cB2) rfl;have y2:=HR9.cell 2 (v := .slice (some ⟨gb,0,none⟩) c2.length cap) rfl;have y3:=HR9.cell 3 (v := .int .i64 kc.steps) rfl;have y4:=HR9.cell 4 (v := .int .i64 kc.moves) rfl;have y5:=HR9.cell 5 (v := .int .i64 kc.rounds) rfl;have y6:=HR9.cell 6 (v := .int .i64 kc.begun) rfl;have y7:=HR9.cell 7 (v := .int .u32 (kc.pending:Int)) rfl;refine bodyPost_ret (v := .agg #[.slice RA2 (lc.length+1) cA2,.slice RB2 (le.length+1) cB2,.slice (some ⟨gb,0,none⟩) c2.length cap,.int .i64 kc.steps,.int .i64 kc.moves,.int .i64 kc.rounds,.int .i64 kc.begun,.int .u32 (kc.pending:Int)]) (by simp [results,Tryz.results41,go_sem,y0,y1,y2,y3,y4,y5,y6,y7];try go_simp) rfl ?_
    have hag:Agr (fun k=>k=w.heap.size+1+1+1) V5_11 ((((((((V5_11.setCell ⟨w.heap.size+1+1+1,0,none⟩ (.slice RA2 (lc.length+1) cA2)).setCell ⟨w.heap.size+1+1+1,1,none⟩ (.slice RB2 (le.length+1) cB2)).setCell ⟨w.heap.size+1+1+1,2,none⟩ (.slice (some ⟨gb,0,none⟩) c2.length cap)).setCell ⟨w.heap.size+1+1+1,3,none⟩ (.int .i64 kc.steps)).setCell ⟨w.heap.size+1+1+1,4,none⟩ (.int .i64 kc.moves)).setCell ⟨w.heap.size+1+1+1,5,none⟩ (.int .i64 kc.rounds)).setCell ⟨w.heap.size+1+1+1,6,none⟩ (.int .i64 kc.begun)).setCell ⟨w.heap.size+1+1+1,7,none⟩ (.int .u32 (kc.pending:Int))):=Agr.trace (E:=fun k=>k=w.heap.size+1+1+1) rfl;have hA:=HBA.owns HRA.out;have hf:=HFIN.out V5_11 _ RA2 cA2 RB2 cB2 _ HB hA HRB.out hWAs.out hag;exact hf
  .
   (try go_simp)
   refine hK.out _ _ (fun _=>hcell.out _ (HB.alloc (.cells #[.int .u32 (E:Int)] 34))) ?_
   clear hK K
   (try simp only [Act.put,List.setIfInBounds_toArray,List.set_cons_zero,List.set_cons_succ])
   have H10:=aA0 (Blk.new V0_4 #[.int .u32 (E:Int)] 34);replace HB:=HB.alloc (.cells #[.int .u32 (E:Int)] 34);replace H4:=aA0 (H4.out.alloc (.cells #[.int .u32 (E:Int)] 34));generalize V0_4.alloc (.cells #[.int .u32 (E:Int)] 34)=V1_10 at *;generalize hgE:V0_4.heap.size=g10 at H10 ⊢;clear hgE;refine aA6.one (i:=2) (by kernel_rfl) rfl (fun K hK=>?_)
   refine aBd _ rfl (.const (.slice none 0 0)) (.tmp 36) 31 rfl W4.heap.size 34 i0 (.int .u32 0) 1 4 underlying31 hi0 hz0 hz1 hz2 rfl (by decide) none 0 0 [] (by simp [Act.eval]) (World.ownsRow_nil _ _ _ _) A7 lc.length k7 (lc.map aBk) (by simp [Act.eval]) (aBc (HM7.out _ (aA1 ((Bel.refl ((w.alloc (.cells #[.string p.name,.slice A1 p.vars.length k1,.slice A2 p.rules.length k2] 25)).alloc (.cells #[.slice A3 g.ids.length k3,.slice A4 g.ports.length k4] 29))).trans (HWR.out.trans HB)))).1) (aAu _) (by have:=HN.out;have:=HEL.out;unfold maxLen;omega) (by have:=HN.out;have:=HEL.out;omega) HB.size ?_
   intro RA cA V2_2 hown hgr hat
   rw [List.nil_append,Nat.zero_add] at hown;rw [Nat.zero_add] at hat;have hbN:Bel V1_10 V2_2:=(Bel.refl V1_10).grown hgr (fun k hk=>by cases hk)
   have HRA:=aA0 hown
   have HNE:Hid (∀ k,some k=(Value.slice RA lc.length cA).ownBlock->k≠g10):=fun k hk=>by
    rcases hat with e | e
    .rw [e] at hk;cases hk
    .rw [e] at hk;have:=Option.some.inj hk;have:=H10.out.lt;omega
   replace H4:=aA0 (H4.out.keep hbN);replace H10:=aA0 (H10.out.keep hbN);replace HB:=HB.trans hbN;refine hK.out _ _ (fun _=>hcell.out _ HB) ?_
   clear hK K hown hgr hat hbN
   (try simp only [Act.put,List.setIfInBounds_toArray,List.set_cons_zero,List.set_cons_succ])
   refine aA6.one (i:=5) (by kernel_rfl) rfl (fun K hK=>?_)
   have hsw:=HB.size;refine aAh _ rfl (.tmp 37) (.tmp 39) 31 rfl W4.heap.size 34 i0 (.int .u32 0) 1 4 underlying31 hi0 hz0 hz1 hz2 rfl (by decide) RA lc.length cA (lc.map aBk) (by simp [Act.eval]) HRA.out g4 #[.int .u32 (S:Int)] 34 (0,0) (by simp [Act.eval]) H4.out rfl (aBp _) (by have:=HN.out;have:=HEL.out;unfold maxLen;omega) (by have:=HN.out;have:=HEL.out;omega) HB.size ?_
   intro RA2 cA2 V3_5 hown hgr _
   replace H10:=aA0 (H10.out.grow hgr HNE.out);clear HNE;replace HB:=HB.grown hgr (fun k hk=>by have:=(aA8 HRA.out k hk.symm).1;omega)
   replace HRA:=aA0 (aC2 rfl hown);have HBA:=Bel.refl V3_5;have hWAs:Hid (W4.heap.size<=V3_5.heap.size):=HB.size
   skip
   refine hK.out _ _ (fun _=>hcell.out _ HB) ?_
   clear hK K hown hgr hsw H4
   (try simp only [Act.put,List.setIfInBounds_toArray,List.set_cons_zero,List.set_cons_succ])
   refine aA6.one (i:=8) (by kernel_rfl) rfl (fun K hK=>?_)
   refine aBd _ rfl (.const (.slice none 0 0)) (.tmp 42) 31 rfl V3_5.heap.size 34 i0 (.int .u32 0) 1 4 underlying31 hi0 hz0 hz1 hz2 rfl (by decide) none 0 0 [] (by simp [Act.eval]) (World.ownsRow_nil _ _ _ _) A8 le.length k8 (le.map aBk) (by simp [Act.eval]) (aBc (HM7.out _ (aA1 ((Bel.refl ((w.alloc (.cells #[.string p.name,.slice A1 p.vars.length k1,.slice A2 p.rules.length k2] 25)).alloc (.cells #[.slice A3 g.ids.length k3,.slice A4 g.ports.length k4] 29))).trans (HWR.out.trans HB)))).2) (aAu _) (by have:=HN.out;have:=HEL.out;unfold maxLen;omega) (by have:=HN.out;have:=HEL.out;omega) HBA.size ?_
   intro RB cB V4_8 hown hgr hat
   rw [List.nil_append,Nat.zero_add] at hown;rw [Nat.zero_add] at hat;have hbN:Bel V3_5 V4_8:=(Bel.refl V3_5).grown hgr (fun k hk=>by cases hk)
   have HRB:=aA0 hown;replace H10:=aA0 (H10.out.keep hbN);replace HBA:=HBA.trans hbN;replace HB:=HB.trans hbN;refine hK.out _ _ (fun _=>hcell.out _ HB) ?_
   clear hK K hown hgr hat hbN
   (try simp only [Act.put,List.setIfInBounds_toArray,List.set_cons_zero,List.set_cons_succ])
   refine aA6.one (i:=11) (by kernel_rfl) rfl (fun K hK=>?_)
   have hsw:=HB.size;have hwa:W4.heap.size<=V3_5.heap.size:=hWAs.out;refine aAh _ rfl (.tmp 43) (.tmp 45) 31 rfl V3_5.heap.size 34 i0 (.int .u32 0) 1 4 underlying31 hi0 hz0 hz1 hz2 rfl (by decide) RB le.length cB (le.map aBk) (by simp [Act.eval]) HRB.out g10 #[.int .u32 (E:Int)] 34 (0,0) (by simp [Act.eval]) H10.out rfl (aBp _) (by have:=HN.out;have:=HEL.out;unfold maxLen;omega) (by have:=HN.out;have:=HEL.out;omega) HBA.size ?_
   intro RB2 cB2 V5_11 hown hgr _
   replace HB:=HB.grown hgr (fun k hk=>by have:=(aA8 HRB.out k hk.symm).1;omega)
   replace HBA:=HBA.grown hgr (fun k hk=>by have:=(aA8 HRB.out k hk.symm).1;omega)
   replace HRB:=aA0 (aC2 rfl hown);refine hK.out _ _ (fun _=>hcell.out _ HB) ?_
   clear hK K hown hgr hsw H10 hwa
   (try simp only [Act.put,List.setIfInBounds_toArray,List.set_cons_zero,List.set_cons_succ])
   have HZL:=aA0 (HZ4.out.keep HB);have z0:=HZL.out.cell 0 (v := .slice none 0 0) rfl;have zf0:=HZL.out.frozen 0;have z1:=HZL.out.cell 1 (v := .slice none 0 0) rfl;have zf1:=HZL.out.frozen 1;have z2:=HZL.out.cell 2 (v := .slice none 0 0) rfl;have zf2:=HZL.out.frozen 2;have z3:=HZL.out.cell 3 (v := .int .i64 0) rfl;have zf3:=HZL.out.frozen 3;have z4:=HZL.out.cell 4 (v := .int .i64 0) rfl;have zf4:=HZL.out.frozen 4;have z5:=HZL.out.cell 5 (v := .int .i64 0) rfl;have zf5:=HZL.out.frozen 5;have z6:=HZL.out.cell 6 (v := .int .i64 0) rfl;have zf6:=HZL.out.frozen 6;have z7:=HZL.out.cell 7 (v := .int .u32 0) rfl;have zf7:=HZL.out.frozen 7;have zl:=HZL.out.lt;have hHeld:=hcell.out _ HB
   (refine aA6.t (v:=?_) 14 49 rfl rfl (by kernel_rfl) (fun _ _ _ h=>h) hHeld (Or.inl ⟨by rfl,?_⟩) ?_;rotate_left 1;focus (intro w' hSw;(try dsimp only at hSw);go_simp;(try with_reducible rfl);done))
   (refine aA6.one (i:=15) (by kernel_rfl) rfl (fun K hK=>?_));go_simp;refine hK.out _ _ (fun h=>absurd rfl h) ?_;clear hK K;refine aA6.done (by kernel_rfl) ?_ _;(try simp only [Act.put,List.setIfInBounds_toArray,List.set_cons_zero,List.set_cons_succ])
   go_wp2_with fail
   have HR9:Blk ((((((((V5_11.setCell ⟨w.heap.size+1+1+1,0,none⟩ (.slice RA2 (lc.length+1) cA2)).setCell ⟨w.heap.size+1+1+1,1,none⟩ (.slice RB2 (le.length+1) cB2)).setCell ⟨w.heap.size+1+1+1,2,none⟩ (.slice (some ⟨gb,0,none⟩) c2.length cap)).setCell ⟨w.heap.size+1+1+1,3,none⟩ (.int .i64 kc.steps)).setCell ⟨w.heap.size+1+1+1,4,none⟩ (.int .i64 kc.moves)).setCell ⟨w.heap.size+1+1+1,5,none⟩ (.int .i64 kc.rounds)).setCell ⟨w.heap.size+1+1+1,6,none⟩ (.int .i64 kc.begun)).setCell ⟨w.heap.size+1+1+1,7,none⟩ (.int .u32 (kc.pending:Int))) (w.heap.size+1+1+1) #[.slice RA2 (lc.length+1) cA2,.slice RB2 (le.length+1) cB2,.slice (some ⟨gb,0,none⟩) c2.length cap,.int .i64 kc.steps,.int .i64 kc.moves,.int .i64 kc.rounds,.int .i64 kc.begun,.int .u32 (kc.pending:Int)] 38:=HZL.out.trace;have y0:=HR9.cell 0 (v := .slice RA2 (lc.length+1) cA2) rfl;have y1:=HR9.cell 1 (v := .slice RB2 (le.length+1) cB2) rfl;have y2:=HR9.cell 2 (v := .slice (some ⟨gb,0,none⟩) c2.length cap) rfl;have y3:=HR9.cell 3 (v := .int .i64 kc.steps) rfl;have y4:=HR9.cell 4 (v := .int .i64 kc.moves) rfl;have y5:=HR9.cell 5 (v := .int .i64 kc.rounds) rfl;have y6:=HR9.cell 6 (v := .int .i64 kc.begun) rfl;have y7:=HR9.cell 7 (v := .int .u32 (kc.pending:Int)) rfl;refine bodyPost_ret (v := .agg #[.slice RA2 (lc.length+1) cA2,.slice RB2 (le.length+1) cB2,.slice (some ⟨gb,0,none⟩) c2.length cap,.int .i64 kc.steps,.int .i64 kc.moves,.int .i64 kc.rounds,.int .i64 kc.begun,.int .u32 (kc.pending:Int)]) (by simp [results,Tryz.results41,go_sem,y0,y1,y2,y3,y4,y5,y6,y7];try go_simp) rfl ?_
   have hag:Agr (fun k=>k=w.heap.size+1+1+1) V5_11 ((((((((V5_11.setCell ⟨w.heap.size+1+1+1,0,none⟩ (.slice RA2 (lc.length+1) cA2)).setCell ⟨w.heap.size+1+1+1,1,none⟩ (.slice RB2 (le.length+1) cB2)).setCell ⟨w.heap.size+1+1+1,2,none⟩ (.slice (some ⟨gb,0,none⟩) c2.length cap)).setCell ⟨w.heap.size+1+1+1,3,none⟩ (.int .i64 kc.steps)).setCell ⟨w.heap.size+1+1+1,4,none⟩ (.int .i64 kc.moves)).setCell ⟨w.heap.size+1+1+1,5,none⟩ (.int .i64 kc.rounds)).setCell ⟨w.heap.size+1+1+1,6,none⟩ (.int .i64 kc.begun)).setCell ⟨w.heap.size+1+1+1,7,none⟩ (.int .u32 (kc.pending:Int))):=Agr.trace (E:=fun k=>k=w.heap.size+1+1+1) rfl;have hA:=HBA.owns HRA.out;have hf:=HFIN.out V5_11 _ RA2 cA2 RB2 cB2 _ HB hA HRB.out hWAs.out hag;exact hf
 .
  (try go_simp)
  replace HB:=((Bel.refl W4).alloc (.cells #[.int .u32 (E:Int)] 34)).drew;refine hK.out _ _ (fun _=>hcell.out _ HB) ?_
  clear hK K
  (try simp only [Act.put,List.setIfInBounds_toArray,List.set_cons_zero,List.set_cons_succ])
  have H10:=aA0 ((Blk.new W4 #[.int .u32 (E:Int)] 34).drew);generalize (W4.alloc (.cells #[.int .u32 (E:Int)] 34)).drew=V0_10 at *;generalize hgE:W4.heap.size=g10 at H10 ⊢;clear hgE;refine aA6.two (i:=2) (j:=4) (by kernel_rfl) rfl rfl (fun K hK=>?_) (fun K hK=>?_)
  .refine aBd _ rfl (.const (.slice none 0 0)) (.tmp 36) 31 rfl W4.heap.size 34 i0 (.int .u32 0) 1 4 underlying31 hi0 hz0 hz1 hz2 rfl (by decide) none 0 0 [] (by simp [Act.eval]) (World.ownsRow_nil _ _ _ _) A7 lc.length k7 (lc.map aBk) (by simp [Act.eval]) (aBc (HM7.out _ (aA1 ((Bel.refl ((w.alloc (.cells #[.string p.name,.slice A1 p.vars.length k1,.slice A2 p.rules.length k2] 25)).alloc (.cells #[.slice A3 g.ids.length k3,.slice A4 g.ports.length k4] 29))).trans (HWR.out.trans HB)))).1) (aAu _) (by have:=HN.out;have:=HEL.out;unfold maxLen;omega) (by have:=HN.out;have:=HEL.out;omega) HB.size ?_
   intro RA cA V1_2 hown hgr hat
   rw [List.nil_append,Nat.zero_add] at hown;rw [Nat.zero_add] at hat;have hbN:Bel V0_10 V1_2:=(Bel.refl V0_10).grown hgr (fun k hk=>by cases hk)
   have HRA:=aA0 hown
   have HNE:Hid (∀ k,some k=(Value.slice RA lc.length cA).ownBlock->k≠g10):=fun k hk=>by
    rcases hat with e | e
    .rw [e] at hk;cases hk
    .rw [e] at hk;have:=Option.some.inj hk;have:=H10.out.lt;omega
   replace H10:=aA0 (H10.out.keep hbN);replace HB:=HB.trans hbN;refine hK.out _ _ (fun _=>hcell.out _ HB) ?_
   clear hK K hown hgr hat hbN
   (try simp only [Act.put,List.setIfInBounds_toArray,List.set_cons_zero,List.set_cons_succ])
   refine aA6.one (i:=4) (by kernel_rfl) rfl (fun K hK=>?_)
   (try go_simp)
   refine hK.out _ _ (fun _=>hcell.out _ (HB.alloc (.cells #[.int .u32 (S:Int)] 34))) ?_
   clear hK K
   (try simp only [Act.put,List.setIfInBounds_toArray,List.set_cons_zero,List.set_cons_succ])
   have H4:=aA0 (Blk.new V1_2 #[.int .u32 (S:Int)] 34);replace HB:=HB.alloc (.cells #[.int .u32 (S:Int)] 34);replace HRA:=aA0 (((Bel.refl V1_2).alloc (.cells #[.int .u32 (S:Int)] 34)).owns HRA.out);replace H10:=aA0 (H10.out.alloc (.cells #[.int .u32 (S:Int)] 34));generalize V1_2.alloc (.cells #[.int .u32 (S:Int)] 34)=V2_4 at *;generalize hgE:V1_2.heap.size=g4 at H4 ⊢;clear hgE;refine aA6.one (i:=5) (by kernel_rfl) rfl (fun K hK=>?_)
   have hsw:=HB.size;refine aAh _ rfl (.tmp 37) (.tmp 39) 31 rfl W4.heap.size 34 i0 (.int .u32 0) 1 4 underlying31 hi0 hz0 hz1 hz2 rfl (by decide) RA lc.length cA (lc.map aBk) (by simp [Act.eval]) HRA.out g4 #[.int .u32 (S:Int)] 34 (0,0) (by simp [Act.eval]) H4.out rfl (aBp _) (by have:=HN.out;have:=HEL.out;unfold maxLen;omega) (by have:=HN.out;have:=HEL.out;omega) HB.size ?_
   intro RA2 cA2 V3_5 hown hgr _
   replace H10:=aA0 (H10.out.grow hgr HNE.out);clear HNE;replace HB:=HB.grown hgr (fun k hk=>by have:=(aA8 HRA.out k hk.symm).1;omega)
   replace HRA:=aA0 (aC2 rfl hown);have HBA:=Bel.refl V3_5;have hWAs:Hid (W4.heap.size<=V3_5.heap.size):=HB.size
   skip
   refine hK.out _ _ (fun _=>hcell.out _ HB) ?_
   clear hK K hown hgr hsw H4
   (try simp only [Act.put,List.setIfInBounds_toArray,List.set_cons_zero,List.set_cons_succ])
   refine aA6.one (i:=8) (by kernel_rfl) rfl (fun K hK=>?_)
   refine aBd _ rfl (.const (.slice none 0 0)) (.tmp 42) 31 rfl V3_5.heap.size 34 i0 (.int .u32 0) 1 4 underlying31 hi0 hz0 hz1 hz2 rfl (by decide) none 0 0 [] (by simp [Act.eval]) (World.ownsRow_nil _ _ _ _) A8 le.length k8 (le.map aBk) (by simp [Act.eval]) (aBc (HM7.out _ (aA1 ((Bel.refl ((w.alloc (.cells #[.string p.name,.slice A1 p.vars.length k1,.slice A2 p.rules.length k2] 25)).alloc (.cells #[.slice A3 g.ids.length k3,.slice A4 g.ports.length k4] 29))).trans (HWR.out.trans HB)))).2) (aAu _) (by have:=HN.out;have:=HEL.out;unfold maxLen;omega) (by have:=HN.out;have:=HEL.out;omega) HBA.size ?_
   intro RB cB V4_8 hown hgr hat
   rw [List.nil_append,Nat.zero_add] at hown;rw [Nat.zero_add] at hat;have hbN:Bel V3_5 V4_8:=(Bel.refl V3_5).grown hgr (fun k hk=>by cases hk)
   have HRB:=aA0 hown;replace H10:=aA0 (H10.out.keep hbN);replace HBA:=HBA.trans hbN;replace HB:=HB.trans hbN;refine hK.out _ _ (fun _=>hcell.out _ HB) ?_
   clear hK K hown hgr hat hbN
   (try simp only [Act.put,List.setIfInBounds_toArray,List.set_cons_zero,List.set_cons_succ])
   refine aA6.one (i:=11) (by kernel_rfl) rfl (fun K hK=>?_)
   have hsw:=HB.size;have hwa:W4.heap.size<=V3_5.heap.size:=hWAs.out;refine aAh _ rfl (.tmp 43) (.tmp 45) 31 rfl V3_5.heap.size 34 i0 (.int .u32 0) 1 4 underlying31 hi0 hz0 hz1 hz2 rfl (by decide) RB le.length cB (le.map aBk) (by simp [Act.eval]) HRB.out g10 #[.int .u32 (E:Int)] 34 (0,0) (by simp [Act.eval]) H10.out rfl (aBp _) (by have:=HN.out;have:=HEL.out;unfold maxLen;omega) (by have:=HN.out;have:=HEL.out;omega) HBA.size ?_
   intro RB2 cB2 V5_11 hown hgr _
   replace HB:=HB.grown hgr (fun k hk=>by have:=(aA8 HRB.out k hk.symm).1;omega)
   replace HBA:=HBA.grown hgr (fun k hk=>by have:=(aA8 HRB.out k hk.symm).1;omega)
   replace HRB:=aA0 (aC2 rfl hown);refine hK.out _ _ (fun _=>hcell.out _ HB) ?_
   clear hK K hown hgr hsw H10 hwa
   (try simp only [Act.put,List.setIfInBounds_toArray,List.set_cons_zero,List.set_cons_succ])
   have HZL:=aA0 (HZ4.out.keep HB);have z0:=HZL.out.cell 0 (v := .slice none 0 0) rfl;have zf0:=HZL.out.frozen 0;have z1:=HZL.out.cell 1 (v := .slice none 0 0) rfl;have zf1:=HZL.out.frozen 1;have z2:=HZL.out.cell 2 (v := .slice none 0 0) rfl;have zf2:=HZL.out.frozen 2;have z3:=HZL.out.cell 3 (v := .int .i64 0) rfl;have zf3:=HZL.out.frozen 3;have z4:=HZL.out.cell 4 (v := .int .i64 0) rfl;have zf4:=HZL.out.frozen 4;have z5:=HZL.out.cell 5 (v := .int .i64 0) rfl;have zf5:=HZL.out.frozen 5;have z6:=HZL.out.cell 6 (v := .int .i64 0) rfl;have zf6:=HZL.out.frozen 6;have z7:=HZL.out.cell 7 (v := .int .u32 0) rfl;have zf7:=HZL.out.frozen 7;have zl:=HZL.out.lt;have hHeld:=hcell.out _ HB
   (refine aA6.t (v:=?_) 14 49 rfl rfl (by kernel_rfl) (fun _ _ _ h=>h) hHeld (Or.inl ⟨by rfl,?_⟩) ?_;rotate_left 1;focus (intro w' hSw;(try dsimp only at hSw);go_simp;(try with_reducible rfl);done))
   (refine aA6.one (i:=15) (by kernel_rfl) rfl (fun K hK=>?_));go_simp;refine hK.out _ _ (fun h=>absurd rfl h) ?_;clear hK K;refine aA6.done (by kernel_rfl) ?_ _;(try simp only [Act.put,List.setIfInBounds_toArray,List.set_cons_zero,List.set_cons_succ])
   go_wp2_with fail
   have HR9:Blk ((((((((V5_11.setCell ⟨w.heap.size+1+1+1,0,none⟩ (.slice RA2 (lc.length+1) cA2)).setCell ⟨w.heap.size+1+1+1,1,none⟩ (.slice RB2 (le.length+1) cB2)).setCell ⟨w.heap.size+1+1+1,2,none⟩ (.slice (some ⟨gb,0,none⟩) c2.length cap)).setCell ⟨w.heap.size+1+1+1,3,none⟩ (.int .i64 kc.steps)).setCell ⟨w.heap.size+1+1+1,4,none⟩ (.int .i64 kc.moves)).setCell ⟨w.heap.size+1+1+1,5,none⟩ (.int .i64 kc.rounds)).setCell ⟨w.heap.size+1+1+1,6,none⟩ (.int .i64 kc.begun)).setCell ⟨w.heap.size+1+1+1,7,none⟩ (.int .u32 (kc.pending:Int))) (w.heap.size+1+1+1) #[.slice RA2 (lc.length+1) cA2,.slice RB2 (le.length+1) cB2,.slice (some ⟨gb,0,none⟩) c2.length cap,.int .i64 kc.steps,.int .i64 kc.moves,.int .i64 kc.rounds,.int .i64 kc.begun,.int .u32 (kc.pending:Int)] 38:=HZL.out.trace;have y0:=HR9.cell 0 (v := .slice RA2 (lc.length+1) cA2) rfl;have y1:=HR9.cell 1 (v := .slice RB2 (le.length+1) cB2) rfl;have y2:=HR9.cell 2 (v := .slice (some ⟨gb,0,none⟩) c2.length cap) rfl;have y3:=HR9.cell 3 (v := .int .i64 kc.steps) rfl;have y4:=HR9.cell 4 (v := .int .i64 kc.moves) rfl;have y5:=HR9.cell 5 (v := .int .i64 kc.rounds) rfl;have y6:=HR9.cell 6 (v := .int .i64 kc.begun) rfl;have y7:=HR9.cell 7 (v := .int .u32 (kc.pending:Int)) rfl;refine bodyPost_ret (v := .agg #[.slice RA2 (lc.length+1) cA2,.slice RB2 (le.length+1) cB2,.slice (some ⟨gb,0,none⟩) c2.length cap,.int .i64 kc.steps,.int .i64 kc.moves,.int .i64 kc.rounds,.int .i64 kc.begun,.int .u32 (kc.pending:Int)]) (by simp [results,Tryz.results41,go_sem,y0,y1,y2,y3,y4,y5,y6,y7];try go_simp) rfl ?_
   have hag:Agr (fun k=>k=w.heap.size+1+1+1) V5_11 ((((((((V5_11.setCell ⟨w.heap.size+1+1+1,0,none⟩ (.slice RA2 (lc.length+1) cA2)).setCell ⟨w.heap.size+1+1+1,1,none⟩ (.slice RB2 (le.length+1) cB2)).setCell ⟨w.heap.size+1+1+1,2,none⟩ (.slice (some ⟨gb,0,none⟩) c2.length cap)).setCell ⟨w.heap.size+1+1+1,3,none⟩ (.int .i64 kc.steps)).setCell ⟨w.heap.size+1+1+1,4,none⟩ (.int .i64 kc.moves)).setCell ⟨w.heap.size+1+1+1,5,none⟩ (.int .i64 kc.rounds)).setCell ⟨w.heap.size+1+1+1,6,none⟩ (.int .i64 kc.begun)).setCell ⟨w.heap.size+1+1+1,7,none⟩ (.int .u32 (kc.pending:Int))):=Agr.trace (E:=fun k=>k=w.heap.size+1+1+1) rfl;have hA:=HBA.owns HRA.out;have hf:=HFIN.out V5_11 _ RA2 cA2 RB2 cB2 _ HB hA HRB.out hWAs.out hag;exact hf
  .
   (try go_simp)
   refine hK.out _ _ (fun _=>hcell.out _ (HB.alloc (.cells #[.int .u32 (S:Int)] 34))) ?_
   clear hK K
   (try simp only [Act.put,List.setIfInBounds_toArray,List.set_cons_zero,List.set_cons_succ])
   have H4:=aA0 (Blk.new V0_10 #[.int .u32 (S:Int)] 34);replace HB:=HB.alloc (.cells #[.int .u32 (S:Int)] 34);replace H10:=aA0 (H10.out.alloc (.cells #[.int .u32 (S:Int)] 34));generalize V0_10.alloc (.cells #[.int .u32 (S:Int)] 34)=V1_4 at *;generalize hgE:V0_10.heap.size=g4 at H4 ⊢;clear hgE;refine aA6.one (i:=2) (by kernel_rfl) rfl (fun K hK=>?_)
   refine aBd _ rfl (.const (.slice none 0 0)) (.tmp 36) 31 rfl W4.heap.size 34 i0 (.int .u32 0) 1 4 underlying31 hi0 hz0 hz1 hz2 rfl (by decide) none 0 0 [] (by simp [Act.eval]) (World.ownsRow_nil _ _ _ _) A7 lc.length k7 (lc.map aBk) (by simp [Act.eval]) (aBc (HM7.out _ (aA1 ((Bel.refl ((w.alloc (.cells #[.string p.name,.slice A1 p.vars.length k1,.slice A2 p.rules.length k2] 25)).alloc (.cells #[.slice A3 g.ids.length k3,.slice A4 g.ports.length k4] 29))).trans (HWR.out.trans HB)))).1) (aAu _) (by have:=HN.out;have:=HEL.out;unfold maxLen;omega) (by have:=HN.out;have:=HEL.out;omega) HB.size ?_
   intro RA cA V2_2 hown hgr hat
   rw [List.nil_append,Nat.zero_add] at hown;rw [Nat.zero_add] at hat;have hbN:Bel V1_4 V2_2:=(Bel.refl V1_4).grown hgr (fun k hk=>by cases hk)
   have HRA:=aA0 hown
   have HNE:Hid (∀ k,some k=(Value.slice RA lc.length cA).ownBlock->k≠g10):=fun k hk=>by
    rcases hat with e | e
    .rw [e] at hk;cases hk
    .rw [e] at hk;have:=Option.some.inj hk;have:=H10.out.lt;omega
   replace H4:=aA0 (H4.out.keep hbN);replace H10:=aA0 (H10.out.keep hbN);replace HB:=HB.trans hbN;refine hK.out _ _ (fun _=>hcell.out _ HB) ?_
   clear hK K hown hgr hat hbN
   (try simp only [Act.put,List.setIfInBounds_toArray,List.set_cons_zero,List.set_cons_succ])
   refine aA6.one (i:=5) (by kernel_rfl) rfl (fun K hK=>?_)
   have hsw:=HB.size;refine aAh _ rfl (.tmp 37) (.tmp 39) 31 rfl W4.heap.size 34 i0 (.int .u32 0) 1 4 underlying31 hi0 hz0 hz1 hz2 rfl (by decide) RA lc.length cA (lc.map aBk) (by simp [Act.eval]) HRA.out g4 #[.int .u32 (S:Int)] 34 (0,0) (by simp [Act.eval]) H4.out rfl (aBp _) (by have:=HN.out;have:=HEL.out;unfold maxLen;omega) (by have:=HN.out;have:=HEL.out;omega) HB.size ?_
   intro RA2 cA2 V3_5 hown hgr _
   replace H10:=aA0 (H10.out.grow hgr HNE.out);clear HNE;replace HB:=HB.grown hgr (fun k hk=>by have:=(aA8 HRA.out k hk.symm).1;omega)
   replace HRA:=aA0 (aC2 rfl hown);have HBA:=Bel.refl V3_5;have hWAs:Hid (W4.heap.size<=V3_5.heap.size):=HB.size
   skip
   refine hK.out _ _ (fun _=>hcell.out _ HB) ?_
   clear hK K hown hgr hsw H4
   (try simp only [Act.put,List.setIfInBounds_toArray,List.set_cons_zero,List.set_cons_succ])
   refine aA6.one (i:=8) (by kernel_rfl) rfl (fun K hK=>?_)
   refine aBd _ rfl (.const (.slice none 0 0)) (.tmp 42) 31 rfl V3_5.heap.size 34 i0 (.int .u32 0) 1 4 underlying31 hi0 hz0 hz1 hz2 rfl (by decide) none 0 0 [] (by simp [Act.eval]) (World.ownsRow_nil _ _ _ _) A8 le.length k8 (le.map aBk) (by simp [Act.eval]) (aBc (HM7.out _ (aA1 ((Bel.refl ((w.alloc (.cells #[.string p.name,.slice A1 p.vars.length k1,.slice A2 p.rules.length k2] 25)).alloc (.cells #[.slice A3 g.ids.length k3,.slice A4 g.ports.length k4] 29))).trans (HWR.out.trans HB)))).2) (aAu _) (by have:=HN.out;have:=HEL.out;unfold maxLen;omega) (by have:=HN.out;have:=HEL.out;omega) HBA.size ?_
   intro RB cB V4_8 hown hgr hat
   rw [List.nil_append,Nat.zero_add] at hown;rw [Nat.zero_add] at hat;have hbN:Bel V3_5 V4_8:=(Bel.refl V3_5).grown hgr (fun k hk=>by cases hk)
   have HRB:=aA0 hown;replace H10:=aA0 (H10.out.keep hbN);replace HBA:=HBA.trans hbN;replace HB:=HB.trans hbN;refine hK.out _ _ (fun _=>hcell.out _ HB) ?_
   clear hK K hown hgr hat hbN
   (try simp only [Act.put,List.setIfInBounds_toArray,List.set_cons_zero,List.set_cons_succ])
   refine aA6.one (i:=11) (by kernel_rfl) rfl (fun K hK=>?_)
   have hsw:=HB.size;have hwa:W4.heap.size<=V3_5.heap.size:=hWAs.out;refine aAh _ rfl (.tmp 43) (.tmp 45) 31 rfl V3_5.heap.size 34 i0 (.int .u32 0) 1 4 underlying31 hi0 hz0 hz1 hz2 rfl (by decide) RB le.length cB (le.map aBk) (by simp [Act.eval]) HRB.out g10 #[.int .u32 (E:Int)] 34 (0,0) (by simp [Act.eval]) H10.out rfl (aBp _) (by have:=HN.out;have:=HEL.out;unfold maxLen;omega) (by have:=HN.out;have:=HEL.out;omega) HBA.size ?_
   intro RB2 cB2 V5_11 hown hgr _
   replace HB:=HB.grown hgr (fun k hk=>by have:=(aA8 HRB.out k hk.symm).1;omega)
   replace HBA:=HBA.grown hgr (fun k hk=>by have:=(aA8 HRB.out k hk.symm).1;omega)
   replace HRB:=aA0 (aC2 rfl hown);refine hK.out _ _ (fun _=>hcell.out _ HB) ?_
   clear hK K hown hgr hsw H10 hwa
   (try simp only [Act.put,List.setIfInBounds_toArray,List.set_cons_zero,List.set_cons_succ])
   have HZL:=aA0 (HZ4.out.keep HB);have z0:=HZL.out.cell 0 (v := .slice none 0 0) rfl;have zf0:=HZL.out.frozen 0;have z1:=HZL.out.cell 1 (v := .slice none 0 0) rfl;have zf1:=HZL.out.frozen 1;have z2:=HZL.out.cell 2 (v := .slice none 0 0) rfl;have zf2:=HZL.out.frozen 2;have z3:=HZL.out.cell 3 (v := .int .i64 0) rfl;have zf3:=HZL.out.frozen 3;have z4:=HZL.out.cell 4 (v := .int .i64 0) rfl;have zf4:=HZL.out.frozen 4;have z5:=HZL.out.cell 5 (v := .int .i64 0) rfl;have zf5:=HZL.out.frozen 5;have z6:=HZL.out.cell 6 (v := .int .i64 0) rfl;have zf6:=HZL.out.frozen 6;have z7:=HZL.out.cell 7 (v := .int .u32 0) rfl;have zf7:=HZL.out.frozen 7;have zl:=HZL.out.lt;have hHeld:=hcell.out _ HB
   (refine aA6.t (v:=?_) 14 49 rfl rfl (by kernel_rfl) (fun _ _ _ h=>h) hHeld (Or.inl ⟨by rfl,?_⟩) ?_;rotate_left 1;focus (intro w' hSw;(try dsimp only at hSw);go_simp;(try with_reducible rfl);done))
   (refine aA6.one (i:=15) (by kernel_rfl) rfl (fun K hK=>?_));go_simp;refine hK.out _ _ (fun h=>absurd rfl h) ?_;clear hK K;refine aA6.done (by kernel_rfl) ?_ _;(try simp only [Act.put,List.setIfInBounds_toArray,List.set_cons_zero,List.set_cons_succ])
   go_wp2_with fail
   have HR9:Blk ((((((((V5_11.setCell ⟨w.heap.size+1+1+1,0,none⟩ (.slice RA2 (lc.length+1) cA2)).setCell ⟨w.heap.size+1+1+1,1,none⟩ (.slice RB2 (le.length+1) cB2)).setCell ⟨w.heap.size+1+1+1,2,none⟩ (.slice (some ⟨gb,0,none⟩) c2.length cap)).setCell ⟨w.heap.size+1+1+1,3,none⟩ (.int .i64 kc.steps)).setCell ⟨w.heap.size+1+1+1,4,none⟩ (.int .i64 kc.moves)).setCell ⟨w.heap.size+1+1+1,5,none⟩ (.int .i64 kc.rounds)).setCell ⟨w.heap.size+1+1+1,6,none⟩ (.int .i64 kc.begun)).setCell ⟨w.heap.size+1+1+1,7,none⟩ (.int .u32 (kc.pending:Int))) (w.heap.size+1+1+1) #[.slice RA2 (lc.length+1) cA2,.slice RB2 (le.length+1) cB2,.slice (some ⟨gb,0,none⟩) c2.length cap,.int .i64 kc.steps,.int .i64 kc.moves,.int .i64 kc.rounds,.int .i64 kc.begun,.int .u32 (kc.pending:Int)] 38:=HZL.out.trace;have y0:=HR9.cell 0 (v := .slice RA2 (lc.length+1) cA2) rfl;have y1:=HR9.cell 1 (v := .slice RB2 (le.length+1) cB2) rfl;have y2:=HR9.cell 2 (v := .slice (some ⟨gb,0,none⟩) c2.length cap) rfl;have y3:=HR9.cell 3 (v := .int .i64 kc.steps) rfl;have y4:=HR9.cell 4 (v := .int .i64 kc.moves) rfl;have y5:=HR9.cell 5 (v := .int .i64 kc.rounds) rfl;have y6:=HR9.cell 6 (v := .int .i64 kc.begun) rfl;have y7:=HR9.cell 7 (v := .int .u32 (kc.pending:Int)) rfl;refine bodyPost_ret (v := .agg #[.slice RA2 (lc.length+1) cA2,.slice RB2 (le.length+1) cB2,.slice (some ⟨gb,0,none⟩) c2.length cap,.int .i64 kc.steps,.int .i64 kc.moves,.int .i64 kc.rounds,.int .i64 kc.begun,.int .u32 (kc.pending:Int)]) (by simp [results,Tryz.results41,go_sem,y0,y1,y2,y3,y4,y5,y6,y7];try go_simp) rfl ?_
   have hag:Agr (fun k=>k=w.heap.size+1+1+1) V5_11 ((((((((V5_11.setCell ⟨w.heap.size+1+1+1,0,none⟩ (.slice RA2 (lc.length+1) cA2)).setCell ⟨w.heap.size+1+1+1,1,none⟩ (.slice RB2 (le.length+1) cB2)).setCell ⟨w.heap.size+1+1+1,2,none⟩ (.slice (some ⟨gb,0,none⟩) c2.length cap)).setCell ⟨w.heap.size+1+1+1,3,none⟩ (.int .i64 kc.steps)).setCell ⟨w.heap.size+1+1+1,4,none⟩ (.int .i64 kc.moves)).setCell ⟨w.heap.size+1+1+1,5,none⟩ (.int .i64 kc.rounds)).setCell ⟨w.heap.size+1+1+1,6,none⟩ (.int .i64 kc.begun)).setCell ⟨w.heap.size+1+1+1,7,none⟩ (.int .u32 (kc.pending:Int))):=Agr.trace (E:=fun k=>k=w.heap.size+1+1+1) rfl;have hA:=HBA.owns HRA.out;have hf:=HFIN.out V5_11 _ RA2 cA2 RB2 cB2 _ HB hA HRB.out hWAs.out hag;exact hf
end Go.Proofs.YtdcjnhoabbdanaaGreatDoor

