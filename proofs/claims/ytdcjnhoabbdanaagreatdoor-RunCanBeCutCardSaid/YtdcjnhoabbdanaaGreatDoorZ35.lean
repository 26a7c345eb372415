/- Merged. -/
import Derived.Test.YtdcjnhoabbdanaaGreatDoorZ32
import Derived.Test.YtdcjnhoabbdanaaGreatDoorZ33
set_option linter.unusedSimpArgs false
set_option linter.unnecessarySimpa false
set_option linter.unusedVariables false
set_option maxRecDepth 100000
set_option maxHeartbeats 8000000
open Go.Proofs.Tryz

namespace Go.Proofs.YtdcjnhoabbdanaaGreatDoor
open Go.RowKit
theorem aJj (v1 v2:Value) (t:Trc) (w:World) (h1:aCl w v1 t) (h2:aCl w v2 t) (hl:aBr t.last=true) (hn1:t.chosen.length<=1000) (hn2:t.enabled.length<=1000) :
  Calls prog 15 #[v1,v2] w fun e w'=>e = .returned (.bool true)/\Bel w w':=by
 obtain ⟨A1,k1,A2,k2,A3,k3,rfl,a1,_,_,a2,_,_,a3⟩:=h1;obtain ⟨B1,j1,B2,j2,B3,j3,rfl,b1,_,_,b2,_,_,b3⟩:=h2;have H1:=aA0 (fun w' (k:Bel w w')=>And.intro (aAb.keep a1 k) (aAb.keep b1 k));have H2:=aA0 (fun w' (k:Bel w w')=>And.intro (aAb.keep a2 k) (aAb.keep b2 k));have H3:=aA0 (fun w' (k:Bel w w')=>And.intro (a3.keep k) (b3.keep k));have HL:=aA0 hl;have HN1:=aA0 hn1;have HN2:=aA0 hn2;obtain ⟨lc,le,lt,⟨st,mv,ro,be,pe⟩⟩:=t;dsimp only at *;have HZ1:Hid (Blk ((w.alloc (.cells #[.slice A1 lc.length k1,.slice A2 le.length k2,.slice A3 lt.length k3,.int .i64 st,.int .i64 mv,.int .i64 ro,.int .i64 be,.int .u32 (pe:Int)] 38)).alloc (.cells #[.slice B1 lc.length j1,.slice B2 le.length j2,.slice B3 lt.length j3,.int .i64 st,.int .i64 mv,.int .i64 ro,.int .i64 be,.int .u32 (pe:Int)] 38)) w.heap.size #[.slice A1 lc.length k1,.slice A2 le.length k2,.slice A3 lt.length k3,.int .i64 st,.int .i64 mv,.int .i64 ro,.int .i64 be,.int .u32 (pe:Int)] 38):=(Blk.new _ _ _).alloc _
 have HZ2:Hid (Blk ((w.alloc (.cells #[.slice A1 lc.length k1,.slice A2 le.length k2,.slice A3 lt.length k3,.int .i64 st,.int .i64 mv,.int .i64 ro,.int .i64 be,.int .u32 (pe:Int)] 38)).alloc (.cells #[.slice B1 lc.length j1,.slice B2 le.length j2,.slice B3 lt.length j3,.int .i64 st,.int .i64 mv,.int .i64 ro,.int .i64 be,.int .u32 (pe:Int)] 38)) (w.heap.size+1) #[.slice B1 lc.length j1,.slice B2 le.length j2,.slice B3 lt.length j3,.int .i64 st,.int .i64 mv,.int .i64 ro,.int .i64 be,.int .u32 (pe:Int)] 38):=by
  have:=Blk.new (w.alloc (.cells #[.slice A1 lc.length k1,.slice A2 le.length k2,.slice A3 lt.length k3,.int .i64 st,.int .i64 mv,.int .i64 ro,.int .i64 be,.int .u32 (pe:Int)] 38)) #[.slice B1 lc.length j1,.slice B2 le.length j2,.slice B3 lt.length j3,.int .i64 st,.int .i64 mv,.int .i64 ro,.int .i64 be,.int .u32 (pe:Int)] 38;rw [World.size_alloc] at this;exact this
 have HW:Bel w ((w.alloc (.cells #[.slice A1 lc.length k1,.slice A2 le.length k2,.slice A3 lt.length k3,.int .i64 st,.int .i64 mv,.int .i64 ro,.int .i64 be,.int .u32 (pe:Int)] 38)).alloc (.cells #[.slice B1 lc.length j1,.slice B2 le.length j2,.slice B3 lt.length j3,.int .i64 st,.int .i64 mv,.int .i64 ro,.int .i64 be,.int .u32 (pe:Int)] 38)):=((Bel.refl w).alloc _).alloc _;clear a1 a2 a3 b1 b2 b3 hl hn1 hn2;go_enter func15,ntmps15
 go_wp2_with (first
  | (go_at_call 21;with_reducible refine (aDt A1 _ lc _ _ _ (H1.out _ HW).1 (H1.out _ HW).2 (by have:=HN1.out;omega)).mono ?_;rintro e w' ⟨rfl,hb⟩;replace HW:=HW.trans hb;replace HZ1:=aA0 (HZ1.out.keep hb);replace HZ2:=aA0 (HZ2.out.keep hb);clear hb;(try clear x0 x1 x2 x3 x4 x5 x6 x7 y0 y1 y2 y3 y4 y5 y6 y7 xl yl);have x0:=HZ1.out.cell 0 (v := .slice A1 lc.length k1) rfl;have y0:=HZ2.out.cell 0 (v := .slice B1 lc.length j1) rfl;have x1:=HZ1.out.cell 1 (v := .slice A2 le.length k2) rfl;have y1:=HZ2.out.cell 1 (v := .slice B2 le.length j2) rfl;have x2:=HZ1.out.cell 2 (v := .slice A3 lt.length k3) rfl;have y2:=HZ2.out.cell 2 (v := .slice B3 lt.length j3) rfl;have x3:=HZ1.out.cell 3 (v := .int .i64 st) rfl;have y3:=HZ2.out.cell 3 (v := .int .i64 st) rfl;have x4:=HZ1.out.cell 4 (v := .int .i64 mv) rfl;have y4:=HZ2.out.cell 4 (v := .int .i64 mv) rfl;have x5:=HZ1.out.cell 5 (v := .int .i64 ro) rfl;have y5:=HZ2.out.cell 5 (v := .int .i64 ro) rfl;have x6:=HZ1.out.cell 6 (v := .int .i64 be) rfl;have y6:=HZ2.out.cell 6 (v := .int .i64 be) rfl;have x7:=HZ1.out.cell 7 (v := .int .u32 (pe:Int)) rfl;have y7:=HZ2.out.cell 7 (v := .int .u32 (pe:Int)) rfl;have xl:=HZ1.out.lt;have yl:=HZ2.out.lt)
  | (go_at_call 21;with_reducible refine (aDt A2 _ le _ _ _ (H2.out _ HW).1 (H2.out _ HW).2 (by have:=HN2.out;omega)).mono ?_;rintro e w' ⟨rfl,hb⟩;replace HW:=HW.trans hb;replace HZ1:=aA0 (HZ1.out.keep hb);replace HZ2:=aA0 (HZ2.out.keep hb);clear hb;(try clear x0 x1 x2 x3 x4 x5 x6 x7 y0 y1 y2 y3 y4 y5 y6 y7 xl yl);have x0:=HZ1.out.cell 0 (v := .slice A1 lc.length k1) rfl;have y0:=HZ2.out.cell 0 (v := .slice B1 lc.length j1) rfl;have x1:=HZ1.out.cell 1 (v := .slice A2 le.length k2) rfl;have y1:=HZ2.out.cell 1 (v := .slice B2 le.length j2) rfl;have x2:=HZ1.out.cell 2 (v := .slice A3 lt.length k3) rfl;have y2:=HZ2.out.cell 2 (v := .slice B3 lt.length j3) rfl;have x3:=HZ1.out.cell 3 (v := .int .i64 st) rfl;have y3:=HZ2.out.cell 3 (v := .int .i64 st) rfl;have x4:=HZ1.out.cell 4 (v := .int .i64 mv) rfl;have y4:=HZ2.out.cell 4 (v := .int .i64 mv) rfl;have x5:=HZ1.out.cell 5 (v := .int .i64 ro) rfl;have y5:=HZ2.out.cell 5 (v := .int .i64 ro) rfl;have x6:=HZ1.out.cell 6 (v := .int .i64 be) rfl;have y6:=HZ2.out.cell 6 (v := .int .i64 be) rfl;have x7:=HZ1.out.cell 7 (v := .int .u32 (pe:Int)) rfl;have y7:=HZ2.out.cell 7 (v := .int .u32 (pe:Int)) rfl;have xl:=HZ1.out.lt;have yl:=HZ2.out.lt)
  | (go_at_call 20;refine (aGc _ _ lt lt _ (H3.out _ HW).1 (H3.out _ HW).2 (by have:=(aB4 HL.out).1;omega) (fun r hr=>by have:=(aB4 HL.out).2 r hr;omega)).mono ?_;rintro e w' ⟨rfl,hb⟩;rw [decide_eq_true rfl];replace HW:=HW.trans hb;replace HZ1:=aA0 (HZ1.out.keep hb);replace HZ2:=aA0 (HZ2.out.keep hb);clear hb;(try clear x0 x1 x2 x3 x4 x5 x6 x7 y0 y1 y2 y3 y4 y5 y6 y7 xl yl);have x0:=HZ1.out.cell 0 (v := .slice A1 lc.length k1) rfl;have y0:=HZ2.out.cell 0 (v := .slice B1 lc.length j1) rfl;have x1:=HZ1.out.cell 1 (v := .slice A2 le.length k2) rfl;have y1:=HZ2.out.cell 1 (v := .slice B2 le.length j2) rfl;have x2:=HZ1.out.cell 2 (v := .slice A3 lt.length k3) rfl;have y2:=HZ2.out.cell 2 (v := .slice B3 lt.length j3) rfl;have x3:=HZ1.out.cell 3 (v := .int .i64 st) rfl;have y3:=HZ2.out.cell 3 (v := .int .i64 st) rfl;have x4:=HZ1.out.cell 4 (v := .int .i64 mv) rfl;have y4:=HZ2.out.cell 4 (v := .int .i64 mv) rfl;have x5:=HZ1.out.cell 5 (v := .int .i64 ro) rfl;have y5:=HZ2.out.cell 5 (v := .int .i64 ro) rfl;have x6:=HZ1.out.cell 6 (v := .int .i64 be) rfl;have y6:=HZ2.out.cell 6 (v := .int .i64 be) rfl;have x7:=HZ1.out.cell 7 (v := .int .u32 (pe:Int)) rfl;have y7:=HZ2.out.cell 7 (v := .int .u32 (pe:Int)) rfl;have xl:=HZ1.out.lt;have yl:=HZ2.out.lt))
 go_ret;exact ⟨rfl,HW⟩
def aLy (p:Prg) (g:Graph) (c:aA5) (n:Int):Bool:=aF1 p g&&aBr c&&decide (n<=60)&&decide (aKy p*g.ports.length*aDa g*aDa g<=20000)
theorem aKj {p:Prg} {g:Graph} {c:aA5} {n:Int} (h:aLy p g c n=true):aAq p=true/\aB2 g=true/\aBr c=true/\n<=60:=by
 unfold aLy at h;simp only [Bool.and_eq_true,decide_eq_true_eq] at h
 obtain ⟨⟨⟨h1,h2⟩,h3⟩,_⟩:=h;exact ⟨(aE3 h1).1,(aE3 h1).2,h2,h3⟩
def aHg (p:Prg) (g:Graph) (c:aA5) (n:Int):Bool:=aLy p g c n&&decide (aD5 p g c=0)
theorem aEm {p:Prg} {g:Graph} {c:aA5} {n:Int} (h:aHg p g c n=true):aAq p=true/\aB2 g=true/\aBr c=true/\n<=60/\aD5 p g c=0:=by
 unfold aHg at h;simp only [Bool.and_eq_true,decide_eq_true_eq] at h
 obtain ⟨h1,h2,h3,h4⟩:=aKj h.1;exact ⟨h1,h2,h3,h4,h.2⟩
theorem aNg (v1:Value) (p:Prg) (v2:Value) (g:Graph) (v3:Value) (c:aA5) (n:Int) (w:World) (h:aEo w v1 p) (h2:aAm w v2 g) (h3:aAr w v3 c):Calls prog 11 #[v1,v2,v3,.int .i64 n] w fun e w'=>e = .returned (.bool (aLy p g c n))/\Bel w w':=by
 have HPV:=aA0 (fun w' (k:Bel w w')=>h.keep k);have HGV:=aA0 (fun w' (k:Bel w w')=>h2.keep k);have HCV:=aA0 (fun w' (k:Bel w w')=>h3.keep k);obtain ⟨A1,k1,A2,k2,rfl,_,_,_,_,_,_⟩:=h;obtain ⟨A3,k3,A4,k4,rfl,_,_,_,_,_,_⟩:=h2;obtain ⟨A5,k5,rfl,_,_,_⟩:=h3;have HW:=Bel.refl ((w.alloc (.cells #[.string p.name,.slice A1 p.vars.length k1,.slice A2 p.rules.length k2] 25)).alloc (.cells #[.slice A3 g.ids.length k3,.slice A4 g.ports.length k4] 29));have hcell:=aA0 (fun w' (kk:Bel ((w.alloc (.cells #[.string p.name,.slice A1 p.vars.length k1,.slice A2 p.rules.length k2] 25)).alloc (.cells #[.slice A3 g.ids.length k3,.slice A4 g.ports.length k4] 29)) w')=>aAf kk);have HF:Hid (aLy p g c n=(aF1 p g&&aBr c&&decide (n<=60)&&decide (aKy p*g.ports.length*aDa g*aDa g<=20000))):=rfl;cases hq:aF1 p g with
 | false =>
  rw [hq] at HF;have HQ:=aA0 hq;clear hq;go_enter func11,ntmps11
  go_wp2_with fail
  refine aA6.start (fun w'=>w'.cell? ⟨w.heap.size,0,none⟩=some (.string p.name)/\w'.cell? ⟨w.heap.size,1,none⟩=some (.slice A1 p.vars.length k1)/\w'.cell? ⟨w.heap.size,2,none⟩=some (.slice A2 p.rules.length k2)/\w'.cell? ⟨w.heap.size+1,0,none⟩=some (.slice A3 g.ids.length k3)/\w'.cell? ⟨w.heap.size+1,1,none⟩=some (.slice A4 g.ports.length k4)/\w.heap.size+1<w'.heap.size) 26 (by kernel_rfl) ?_
  replace HW:=HW.drew;have hHeld:=hcell.out _ HW
  (refine aA6.t (v:=?_) 0 9 rfl rfl (by kernel_rfl) (fun _ _ _ h=>h) hHeld (Or.inl ⟨by rfl,?_⟩) ?_;rotate_left 1;focus (intro w' hSw;(try dsimp only at hSw);go_simp;(try with_reducible rfl);done))
  (refine aA6.t (v:=?_) 1 10 rfl rfl (by kernel_rfl) (fun _ _ _ h=>h) hHeld (Or.inl ⟨by rfl,?_⟩) ?_;rotate_left 1;focus (intro w' hSw;(try dsimp only at hSw);go_simp;(try with_reducible rfl);done))
  refine aA6.one (i:=2) (by kernel_rfl) rfl (fun K hK=>?_)
  go_simp
  go_at_call 30
  refine (aJf _ p _ g _ (HPV.out _ (aA1 HW)) (HGV.out _ (aA1 HW))).mono ?_
  rintro e w' ⟨rfl,hb⟩;rw [HQ.out];replace HW:=HW.trans hb;clear hb
  (try go_simp)
  refine hK.out _ _ (fun _=>hcell.out _ HW) ?_
  clear hK K hHeld;have hHeld:=hcell.out _ HW
  (try simp only [Act.put,List.setIfInBounds_toArray,List.set_cons_zero,List.set_cons_succ])
  (refine aA6.t (v:=?_) 3 12 rfl rfl (by kernel_rfl) (fun _ _ _ h=>h) hHeld (Or.inl ⟨by rfl,?_⟩) ?_;rotate_left 1;focus (intro w' hSw;(try dsimp only at hSw);go_simp;(try with_reducible rfl);done))
  (refine aA6.t (v:=undef) 4 13 rfl rfl (by kernel_rfl) (fun _ _ _ h=>h) hHeld (Or.inr ⟨by rfl,rfl⟩) ?_;(try simp only [Act.put,List.setIfInBounds_toArray,List.set_cons_zero,List.set_cons_succ]))
  (refine aA6.t (v:=undef) 5 14 rfl rfl (by kernel_rfl) (fun _ _ _ h=>h) hHeld (Or.inr ⟨by rfl,rfl⟩) ?_;(try simp only [Act.put,List.setIfInBounds_toArray,List.set_cons_zero,List.set_cons_succ]))
  (refine aA6.t (v:=?_) 6 15 rfl rfl (by kernel_rfl) (fun _ _ _ h=>h) hHeld (Or.inl ⟨by rfl,?_⟩) ?_;rotate_left 1;focus (intro w' hSw;(try dsimp only at hSw);go_simp;(try with_reducible rfl);done))
  (refine aA6.t (v:=?_) 7 16 rfl rfl (by kernel_rfl) (fun _ _ _ h=>h) hHeld (Or.inl ⟨by rfl,?_⟩) ?_;rotate_left 1;focus (intro w' hSw;(try dsimp only at hSw);go_simp;(try with_reducible rfl);done))
  (refine aA6.t (v:=undef) 8 17 rfl rfl (by kernel_rfl) (fun _ _ _ h=>h) hHeld (Or.inr ⟨by rfl,rfl⟩) ?_;(try simp only [Act.put,List.setIfInBounds_toArray,List.set_cons_zero,List.set_cons_succ]))
  (refine aA6.t (v:=undef) 9 18 rfl rfl (by kernel_rfl) (fun _ _ _ h=>h) hHeld (Or.inr ⟨by rfl,rfl⟩) ?_;(try simp only [Act.put,List.setIfInBounds_toArray,List.set_cons_zero,List.set_cons_succ]))
  (refine aA6.t (v:=?_) 10 19 rfl rfl (by kernel_rfl) (fun _ _ _ h=>h) hHeld (Or.inl ⟨by rfl,?_⟩) ?_;rotate_left 1;focus (intro w' hSw;(try dsimp only at hSw);go_simp;(try with_reducible rfl);done))
  (refine aA6.t (v:=?_) 11 20 rfl rfl (by kernel_rfl) (fun _ _ _ h=>h) hHeld (Or.inl ⟨by rfl,?_⟩) ?_;rotate_left 1;focus (intro w' hSw;(try dsimp only at hSw);go_simp;(try with_reducible rfl);done))
  (refine aA6.t (v:=undef) 12 21 rfl rfl (by kernel_rfl) (fun _ _ _ h=>h) hHeld (Or.inr ⟨by rfl,rfl⟩) ?_;(try simp only [Act.put,List.setIfInBounds_toArray,List.set_cons_zero,List.set_cons_succ]))
  (refine aA6.t (v:=undef) 13 22 rfl rfl (by kernel_rfl) (fun _ _ _ h=>h) hHeld (Or.inr ⟨by rfl,rfl⟩) ?_;(try simp only [Act.put,List.setIfInBounds_toArray,List.set_cons_zero,List.set_cons_succ]))
  (refine aA6.t (v:=undef) 14 23 rfl rfl (by kernel_rfl) (fun _ _ _ h=>h) hHeld (Or.inr ⟨by rfl,rfl⟩) ?_;(try simp only [Act.put,List.setIfInBounds_toArray,List.set_cons_zero,List.set_cons_succ]))
  (refine aA6.t (v:=undef) 15 24 rfl rfl (by kernel_rfl) (fun _ _ _ h=>h) hHeld (Or.inr ⟨by rfl,rfl⟩) ?_;(try simp only [Act.put,List.setIfInBounds_toArray,List.set_cons_zero,List.set_cons_succ]))
  (refine aA6.t (v:=undef) 16 25 rfl rfl (by kernel_rfl) (fun _ _ _ h=>h) hHeld (Or.inr ⟨by rfl,rfl⟩) ?_;(try simp only [Act.put,List.setIfInBounds_toArray,List.set_cons_zero,List.set_cons_succ]))
  (refine aA6.t (v:=undef) 17 26 rfl rfl (by kernel_rfl) (fun _ _ _ h=>h) hHeld (Or.inr ⟨by rfl,rfl⟩) ?_;(try simp only [Act.put,List.setIfInBounds_toArray,List.set_cons_zero,List.set_cons_succ]))
  (refine aA6.t (v:=undef) 18 27 rfl rfl (by kernel_rfl) (fun _ _ _ h=>h) hHeld (Or.inr ⟨by rfl,rfl⟩) ?_;(try simp only [Act.put,List.setIfInBounds_toArray,List.set_cons_zero,List.set_cons_succ]))
  (refine aA6.t (v:=undef) 19 28 rfl rfl (by kernel_rfl) (fun _ _ _ h=>h) hHeld (Or.inr ⟨by rfl,rfl⟩) ?_;(try simp only [Act.put,List.setIfInBounds_toArray,List.set_cons_zero,List.set_cons_succ]))
  (refine aA6.t (v:=undef) 20 29 rfl rfl (by kernel_rfl) (fun _ _ _ h=>h) hHeld (Or.inr ⟨by rfl,rfl⟩) ?_;(try simp only [Act.put,List.setIfInBounds_toArray,List.set_cons_zero,List.set_cons_succ]))
  (refine aA6.t (v:=undef) 21 30 rfl rfl (by kernel_rfl) (fun _ _ _ h=>h) hHeld (Or.inr ⟨by rfl,rfl⟩) ?_;(try simp only [Act.put,List.setIfInBounds_toArray,List.set_cons_zero,List.set_cons_succ]))
  (refine aA6.t (v:=undef) 22 31 rfl rfl (by kernel_rfl) (fun _ _ _ h=>h) hHeld (Or.inr ⟨by rfl,rfl⟩) ?_;(try simp only [Act.put,List.setIfInBounds_toArray,List.set_cons_zero,List.set_cons_succ]))
  (refine aA6.t (v:=undef) 23 32 rfl rfl (by kernel_rfl) (fun _ _ _ h=>h) hHeld (Or.inr ⟨by rfl,rfl⟩) ?_;(try simp only [Act.put,List.setIfInBounds_toArray,List.set_cons_zero,List.set_cons_succ]))
  (refine aA6.t (v:=undef) 24 33 rfl rfl (by kernel_rfl) (fun _ _ _ h=>h) hHeld (Or.inr ⟨by rfl,rfl⟩) ?_;(try simp only [Act.put,List.setIfInBounds_toArray,List.set_cons_zero,List.set_cons_succ]))
  (refine aA6.t (v:=?_) 25 34 rfl rfl (by kernel_rfl) (fun _ _ _ h=>h) hHeld (Or.inl ⟨by rfl,?_⟩) ?_;rotate_left 1;focus (intro w' hSw;(try dsimp only at hSw);go_simp;(try with_reducible rfl);done))
  refine aA6.one (i:=26) (by kernel_rfl) rfl (fun K hK=>?_)
  go_simp
  refine hK.out _ _ (fun h=>absurd rfl h) ?_
  clear hK K hHeld;refine aA6.done (by kernel_rfl) ?_ _
  go_wp2_with fail
  go_ret;exact ⟨aA2 (by rw [HF.out];rfl),aA1 HW⟩
 | true =>
  rw [hq] at HF;have HQ:=aA0 hq;cases hc:aBr c with
  | false =>
   rw [hc] at HF;have HC:=aA0 hc;clear hq hc;go_enter func11,ntmps11
   go_wp2_with fail
   refine aA6.start (fun w'=>w'.cell? ⟨w.heap.size,0,none⟩=some (.string p.name)/\w'.cell? ⟨w.heap.size,1,none⟩=some (.slice A1 p.vars.length k1)/\w'.cell? ⟨w.heap.size,2,none⟩=some (.slice A2 p.rules.length k2)/\w'.cell? ⟨w.heap.size+1,0,none⟩=some (.slice A3 g.ids.length k3)/\w'.cell? ⟨w.heap.size+1,1,none⟩=some (.slice A4 g.ports.length k4)/\w.heap.size+1<w'.heap.size) 26 (by kernel_rfl) ?_
   replace HW:=HW.drew;have hHeld:=hcell.out _ HW
   (refine aA6.t (v:=?_) 0 9 rfl rfl (by kernel_rfl) (fun _ _ _ h=>h) hHeld (Or.inl ⟨by rfl,?_⟩) ?_;rotate_left 1;focus (intro w' hSw;(try dsimp only at hSw);go_simp;(try with_reducible rfl);done))
   (refine aA6.t (v:=?_) 1 10 rfl rfl (by kernel_rfl) (fun _ _ _ h=>h) hHeld (Or.inl ⟨by rfl,?_⟩) ?_;rotate_left 1;focus (intro w' hSw;(try dsimp only at hSw);go_simp;(try with_reducible rfl);done))
   refine aA6.one (i:=2) (by kernel_rfl) rfl (fun K hK=>?_)
   go_simp
   go_at_call 30
   refine (aJf _ p _ g _ (HPV.out _ (aA1 HW)) (HGV.out _ (aA1 HW))).mono ?_
   rintro e w' ⟨rfl,hb⟩;rw [HQ.out];replace HW:=HW.trans hb;clear hb
   (try go_simp)
   refine hK.out _ _ (fun _=>hcell.out _ HW) ?_
   clear hK K hHeld;have hHeld:=hcell.out _ HW
   (try simp only [Act.put,List.setIfInBounds_toArray,List.set_cons_zero,List.set_cons_succ])
   (refine aA6.t (v:=?_) 3 12 rfl rfl (by kernel_rfl) (fun _ _ _ h=>h) hHeld (Or.inl ⟨by rfl,?_⟩) ?_;rotate_left 1;focus (intro w' hSw;(try dsimp only at hSw);go_simp;(try with_reducible rfl);done))
   (refine aA6.t (v:=?_) 4 13 rfl rfl (by kernel_rfl) (fun _ _ _ h=>h) hHeld (Or.inl ⟨by rfl,?_⟩) ?_;rotate_left 1;focus (intro w' hSw;(try dsimp only at hSw);go_simp;(try with_reducible rfl);done))
   refine aA6.one (i:=5) (by kernel_rfl) rfl (fun K hK=>?_)
   go_simp
   go_at_call 31
   refine (aEy _ c _ (HCV.out _ (aA1 HW))).mono ?_
   rintro e w' ⟨rfl,rfl⟩;rw [HC.out]
   (try go_simp)
   refine hK.out _ _ (fun _=>hcell.out _ HW) ?_
   clear hK K hHeld;have hHeld:=hcell.out _ HW
   (try simp only [Act.put,List.setIfInBounds_toArray,List.set_cons_zero,List.set_cons_succ])
   (refine aA6.t (v:=?_) 6 15 rfl rfl (by kernel_rfl) (fun _ _ _ h=>h) hHeld (Or.inl ⟨by rfl,?_⟩) ?_;rotate_left 1;focus (intro w' hSw;(try dsimp only at hSw);go_simp;(try with_reducible rfl);done))
   (refine aA6.t (v:=?_) 7 16 rfl rfl (by kernel_rfl) (fun _ _ _ h=>h) hHeld (Or.inl ⟨by rfl,?_⟩) ?_;rotate_left 1;focus (intro w' hSw;(try dsimp only at hSw);go_simp;(try with_reducible rfl);done))
   (refine aA6.t (v:=undef) 8 17 rfl rfl (by kernel_rfl) (fun _ _ _ h=>h) hHeld (Or.inr ⟨by rfl,rfl⟩) ?_;(try simp only [Act.put,List.setIfInBounds_toArray,List.set_cons_zero,List.set_cons_succ]))
   (refine aA6.t (v:=undef) 9 18 rfl rfl (by kernel_rfl) (fun _ _ _ h=>h) hHeld (Or.inr ⟨by rfl,rfl⟩) ?_;(try simp only [Act.put,List.setIfInBounds_toArray,List.set_cons_zero,List.set_cons_succ]))
   (refine aA6.t (v:=?_) 10 19 rfl rfl (by kernel_rfl) (fun _ _ _ h=>h) hHeld (Or.inl ⟨by rfl,?_⟩) ?_;rotate_left 1;focus (intro w' hSw;(try dsimp only at hSw);go_simp;(try with_reducible rfl);done))
   (refine aA6.t (v:=?_) 11 20 rfl rfl (by kernel_rfl) (fun _ _ _ h=>h) hHeld (Or.inl ⟨by rfl,?_⟩) ?_;rotate_left 1;focus (intro w' hSw;(try dsimp only at hSw);go_simp;(try with_reducible rfl);done))
   (refine aA6.t (v:=undef) 12 21 rfl rfl (by kernel_rfl) (fun _ _ _ h=>h) hHeld (Or.inr ⟨by rfl,rfl⟩) ?_;(try simp only [Act.put,List.setIfInBounds_toArray,List.set_cons_zero,List.set_cons_succ]))
   (refine aA6.t (v:=undef) 13 22 rfl rfl (by kernel_rfl) (fun _ _ _ h=>h) hHeld (Or.inr ⟨by rfl,rfl⟩) ?_;(try simp only [Act.put,List.setIfInBounds_toArray,List.set_cons_zero,List.set_cons_succ]))
   (refine aA6.t (v:=undef) 14 23 rfl rfl (by kernel_rfl) (fun _ _ _ h=>h) hHeld (Or.inr ⟨by rfl,rfl⟩) ?_;(try simp only [Act.put,List.setIfInBounds_toArray,List.set_cons_zero,List.set_cons_succ]))
   (refine aA6.t (v:=undef) 15 24 rfl rfl (by kernel_rfl) (fun _ _ _ h=>h) hHeld (Or.inr ⟨by rfl,rfl⟩) ?_;(try simp only [Act.put,List.setIfInBounds_toArray,List.set_cons_zero,List.set_cons_succ]))
   (refine aA6.t (v:=undef) 16 25 rfl rfl (by kernel_rfl) (fun _ _ _ h=>h) hHeld (Or.inr ⟨by rfl,rfl⟩) ?_;(try simp only [Act.put,List.setIfInBounds_toArray,List.set_cons_zero,List.set_cons_succ]))
   (refine aA6.t (v:=undef) 17 26 rfl rfl (by kernel_rfl) (fun _ _ _ h=>h) hHeld (Or.inr ⟨by rfl,rfl⟩) ?_;(try simp only [Act.put,List.setIfInBounds_toArray,List.set_cons_zero,List.set_cons_succ]))
   (refine aA6.t (v:=undef) 18 27 rfl rfl (by kernel_rfl) (fun _ _ _ h=>h) hHeld (Or.inr ⟨by rfl,rfl⟩) ?_;(try simp only [Act.put,List.setIfInBounds_toArray,List.set_cons_zero,List.set_cons_succ]))
   (refine aA6.t (v:=undef) 19 28 rfl rfl (by kernel_rfl) (fun _ _ _ h=>h) hHeld (Or.inr ⟨by rfl,rfl⟩) ?_;(try simp only [Act.put,List.setIfInBounds_toArray,List.set_cons_zero,List.set_cons_succ]))
   (refine aA6.t (v:=undef) 20 29 rfl rfl (by kernel_rfl) (fun _ _ _ h=>h) hHeld (Or.inr ⟨by rfl,rfl⟩) ?_;(try simp only [Act.put,List.setIfInBounds_toArray,List.set_cons_zero,List.set_cons_succ]))
   (refine aA6.t (v:=undef) 21 30 rfl rfl (by kernel_rfl) (fun _ _ _ h=>h) hHeld (Or.inr ⟨by rfl,rfl⟩) ?_;(try simp only [Act.put,List.setIfInBounds_toArray,List.set_cons_zero,List.set_cons_succ]))
   (refine aA6.t (v:=undef) 22 31 rfl rfl (by kernel_rfl) (fun _ _ _ h=>h) hHeld (Or.inr ⟨by rfl,rfl⟩) ?_;(try simp only [Act.put,List.setIfInBounds_toArray,List.set_cons_zero,List.set_cons_succ]))
   (refine aA6.t (v:=undef) 23 32 rfl rfl (by kernel_rfl) (fun _ _ _ h=>h) hHeld (Or.inr ⟨by rfl,rfl⟩) ?_;(try simp only [Act.put,List.setIfInBounds_toArray,List.set_cons_zero,List.set_cons_succ]))
   (refine aA6.t (v:=undef) 24 33 rfl rfl (by kernel_rfl) (fun _ _ _ h=>h) hHeld (Or.inr ⟨by rfl,rfl⟩) ?_;(try simp only [Act.put,List.setIfInBounds_toArray,List.set_cons_zero,List.set_cons_succ]))
   (refine aA6.t (v:=?_) 25 34 rfl rfl (by kernel_rfl) (fun _ _ _ h=>h) hHeld (Or.inl ⟨by rfl,?_⟩) ?_;rotate_left 1;focus (intro w' hSw;(try dsimp only at hSw);go_simp;(try with_reducible rfl);done))
   refine aA6.one (i:=26) (by kernel_rfl) rfl (fun K hK=>?_)
   go_simp
   refine hK.out _ _ (fun h=>absurd rfl h) ?_
   clear hK K hHeld;refine aA6.done (by kernel_rfl) ?_ _
   go_wp2_with fail
   go_ret;exact ⟨aA2 (by rw [HF.out];rfl),aA1 HW⟩
  | true =>
   rw [hc] at HF;have HC:=aA0 hc
   by_cases hn:n<=60
   .have dn:decide (n<=60)=true:=decide_eq_true hn
    rw [dn] at HF;have hT:=aQw (aE3 hq).1;have hD:=aLt (aE3 hq).2;have hN:=(aCn (aE3 hq).2).2.1;have HLP:=aA0 (aE3 hq).1;have w1:=aHx hT hN (by decide)
    have w2:=aHx (Nat.mul_le_mul hT hN) hD.2 (by decide)
    have w3:=aHx (Nat.mul_le_mul (Nat.mul_le_mul hT hN) hD.2) hD.2 (by decide)
    have W2:=aA0 w2;have W3:=aA0 w3;rw [<- Int.natCast_mul] at W2 W3;clear w2 w3 hT hD hN hq hc hn;go_enter func11,ntmps11
    go_wp2_with fail
    replace HW:=HW.drew
    go_region_held3 (fun w'=>w'.cell? ⟨w.heap.size,0,none⟩=some (.string p.name)/\w'.cell? ⟨w.heap.size,1,none⟩=some (.slice A1 p.vars.length k1)/\w'.cell? ⟨w.heap.size,2,none⟩=some (.slice A2 p.rules.length k2)/\w'.cell? ⟨w.heap.size+1,0,none⟩=some (.slice A3 g.ids.length k3)/\w'.cell? ⟨w.heap.size+1,1,none⟩=some (.slice A4 g.ports.length k4)/\w.heap.size+1<w'.heap.size) (exact aAf HW) (first
     | (go_simp;go_at_call 30;refine (aJf _ p _ g _ (HPV.out _ (aA1 HW)) (HGV.out _ (aA1 HW))).mono ?_;rintro e w' ⟨rfl,hb⟩;rw [HQ.out];replace HW:=HW.trans hb;clear hb)
     | (go_simp;go_at_call 31;refine (aEy _ c _ (HCV.out _ (aA1 HW))).mono ?_;rintro e w' ⟨rfl,rfl⟩;rw [HC.out])
     | (go_simp;go_at_call 32;refine (aQy _ p _ (HPV.out _ (aA1 HW)) HLP.out).mono ?_;rintro e w4 ⟨rfl,hb⟩;replace HW:=HW.trans hb;clear hb)
     | (go_simp;go_at_call 33;refine (aLu _ g _ (HGV.out _ (aA1 HW))).mono ?_;rintro e w4 ⟨rfl,hb⟩;replace HW:=HW.trans hb;clear hb))
    go_wp2_with fail
    go_ret;refine ⟨aA2 ?_,aA1 HW⟩
    rw [HF.out,Bool.eq_iff_iff];simp only [decide_eq_true_eq,<- Int.natCast_mul,Bool.true_and]
    rw [W2.out,<- Int.natCast_mul,W3.out];omega
   .have dn:decide (n<=60)=false:=decide_eq_false hn
    rw [dn] at HF;clear hq hc hn;go_enter func11,ntmps11
    go_wp2_with fail
    refine aA6.start (fun w'=>w'.cell? ⟨w.heap.size,0,none⟩=some (.string p.name)/\w'.cell? ⟨w.heap.size,1,none⟩=some (.slice A1 p.vars.length k1)/\w'.cell? ⟨w.heap.size,2,none⟩=some (.slice A2 p.rules.length k2)/\w'.cell? ⟨w.heap.size+1,0,none⟩=some (.slice A3 g.ids.length k3)/\w'.cell? ⟨w.heap.size+1,1,none⟩=some (.slice A4 g.ports.length k4)/\w.heap.size+1<w'.heap.size) 26 (by kernel_rfl) ?_
    replace HW:=HW.drew;have hHeld:=hcell.out _ HW
    (refine aA6.t (v:=?_) 0 9 rfl rfl (by kernel_rfl) (fun _ _ _ h=>h) hHeld (Or.inl ⟨by rfl,?_⟩) ?_;rotate_left 1;focus (intro w' hSw;(try dsimp only at hSw);go_simp;(try with_reducible rfl);done))
    (refine aA6.t (v:=?_) 1 10 rfl rfl (by kernel_rfl) (fun _ _ _ h=>h) hHeld (Or.inl ⟨by rfl,?_⟩) ?_;rotate_left 1;focus (intro w' hSw;(try dsimp only at hSw);go_simp;(try with_reducible rfl);done))
    refine aA6.one (i:=2) (by kernel_rfl) rfl (fun K hK=>?_)
    go_simp
    go_at_call 30
    refine (aJf _ p _ g _ (HPV.out _ (aA1 HW)) (HGV.out _ (aA1 HW))).mono ?_
    rintro e w' ⟨rfl,hb⟩;rw [HQ.out];replace HW:=HW.trans hb;clear hb
    (try go_simp)
    refine hK.out _ _ (fun _=>hcell.out _ HW) ?_
    clear hK K hHeld;have hHeld:=hcell.out _ HW
    (try simp only [Act.put,List.setIfInBounds_toArray,List.set_cons_zero,List.set_cons_succ])
    (refine aA6.t (v:=?_) 3 12 rfl rfl (by kernel_rfl) (fun _ _ _ h=>h) hHeld (Or.inl ⟨by rfl,?_⟩) ?_;rotate_left 1;focus (intro w' hSw;(try dsimp only at hSw);go_simp;(try with_reducible rfl);done))
    (refine aA6.t (v:=?_) 4 13 rfl rfl (by kernel_rfl) (fun _ _ _ h=>h) hHeld (Or.inl ⟨by rfl,?_⟩) ?_;rotate_left 1;focus (intro w' hSw;(try dsimp only at hSw);go_simp;(try with_reducible rfl);done))
    refine aA6.one (i:=5) (by kernel_rfl) rfl (fun K hK=>?_)
    go_simp
    go_at_call 31
    refine (aEy _ c _ (HCV.out _ (aA1 HW))).mono ?_
    rintro e w' ⟨rfl,rfl⟩;rw [HC.out]
    (try go_simp)
    refine hK.out _ _ (fun _=>hcell.out _ HW) ?_
    clear hK K hHeld;have hHeld:=hcell.out _ HW
    (try simp only [Act.put,List.setIfInBounds_toArray,List.set_cons_zero,List.set_cons_succ])
    (refine aA6.t (v:=?_) 6 15 rfl rfl (by kernel_rfl) (fun _ _ _ h=>h) hHeld (Or.inl ⟨by rfl,?_⟩) ?_;rotate_left 1;focus (intro w' hSw;(try dsimp only at hSw);go_simp;(try with_reducible rfl);done))
    (refine aA6.t (v:=?_) 7 16 rfl rfl (by kernel_rfl) (fun _ _ _ h=>h) hHeld (Or.inl ⟨by rfl,?_⟩) ?_;rotate_left 1;focus (intro w' hSw;(try dsimp only at hSw);go_simp;(try with_reducible rfl);done))
    (refine aA6.t (v:=?_) 8 17 rfl rfl (by kernel_rfl) (fun _ _ _ h=>h) hHeld (Or.inl ⟨by rfl,?_⟩) ?_;rotate_left 1;focus (intro w' hSw;(try dsimp only at hSw);go_simp;(try with_reducible rfl);done))
    (refine aA6.t (v:=?_) 9 18 rfl rfl (by kernel_rfl) (fun _ _ _ h=>h) hHeld (Or.inl ⟨by rfl,?_⟩) ?_;rotate_left 1;focus (intro w' hSw;(try dsimp only at hSw);go_simp;(try with_reducible rfl);done))
    (refine aA6.t (v:=?_) 10 19 rfl rfl (by kernel_rfl) (fun _ _ _ h=>h) hHeld (Or.inl ⟨by rfl,?_⟩) ?_;rotate_left 1;focus (intro w' hSw;(try dsimp only at hSw);go_simp;(try with_reducible rfl);done))
    (refine aA6.t (v:=?_) 11 20 rfl rfl (by kernel_rfl) (fun _ _ _ h=>h) hHeld (Or.inl ⟨by rfl,?_⟩) ?_;rotate_left 1;focus (intro w' hSw;(try dsimp only at hSw);go_simp;(try with_reducible rfl);done))
    (refine aA6.t (v:=undef) 12 21 rfl rfl (by kernel_rfl) (fun _ _ _ h=>h) hHeld (Or.inr ⟨by rfl,rfl⟩) ?_;(try simp only [Act.put,List.setIfInBounds_toArray,List.set_cons_zero,List.set_cons_succ]))
    (refine aA6.t (v:=undef) 13 22 rfl rfl (by kernel_rfl) (fun _ _ _ h=>h) hHeld (Or.inr ⟨by rfl,rfl⟩) ?_;(try simp only [Act.put,List.setIfInBounds_toArray,List.set_cons_zero,List.set_cons_succ]))
    (refine aA6.t (v:=undef) 14 23 rfl rfl (by kernel_rfl) (fun _ _ _ h=>h) hHeld (Or.inr ⟨by rfl,rfl⟩) ?_;(try simp only [Act.put,List.setIfInBounds_toArray,List.set_cons_zero,List.set_cons_succ]))
    (refine aA6.t (v:=undef) 15 24 rfl rfl (by kernel_rfl) (fun _ _ _ h=>h) hHeld (Or.inr ⟨by rfl,rfl⟩) ?_;(try simp only [Act.put,List.setIfInBounds_toArray,List.set_cons_zero,List.set_cons_succ]))
    (refine aA6.t (v:=undef) 16 25 rfl rfl (by kernel_rfl) (fun _ _ _ h=>h) hHeld (Or.inr ⟨by rfl,rfl⟩) ?_;(try simp only [Act.put,List.setIfInBounds_toArray,List.set_cons_zero,List.set_cons_succ]))
    (refine aA6.t (v:=undef) 17 26 rfl rfl (by kernel_rfl) (fun _ _ _ h=>h) hHeld (Or.inr ⟨by rfl,rfl⟩) ?_;(try simp only [Act.put,List.setIfInBounds_toArray,List.set_cons_zero,List.set_cons_succ]))
    (refine aA6.t (v:=undef) 18 27 rfl rfl (by kernel_rfl) (fun _ _ _ h=>h) hHeld (Or.inr ⟨by rfl,rfl⟩) ?_;(try simp only [Act.put,List.setIfInBounds_toArray,List.set_cons_zero,List.set_cons_succ]))
    (refine aA6.t (v:=undef) 19 28 rfl rfl (by kernel_rfl) (fun _ _ _ h=>h) hHeld (Or.inr ⟨by rfl,rfl⟩) ?_;(try simp only [Act.put,List.setIfInBounds_toArray,List.set_cons_zero,List.set_cons_succ]))
    (refine aA6.t (v:=undef) 20 29 rfl rfl (by kernel_rfl) (fun _ _ _ h=>h) hHeld (Or.inr ⟨by rfl,rfl⟩) ?_;(try simp only [Act.put,List.setIfInBounds_toArray,List.set_cons_zero,List.set_cons_succ]))
    (refine aA6.t (v:=undef) 21 30 rfl rfl (by kernel_rfl) (fun _ _ _ h=>h) hHeld (Or.inr ⟨by rfl,rfl⟩) ?_;(try simp only [Act.put,List.setIfInBounds_toArray,List.set_cons_zero,List.set_cons_succ]))
    (refine aA6.t (v:=undef) 22 31 rfl rfl (by kernel_rfl) (fun _ _ _ h=>h) hHeld (Or.inr ⟨by rfl,rfl⟩) ?_;(try simp only [Act.put,List.setIfInBounds_toArray,List.set_cons_zero,List.set_cons_succ]))
    (refine aA6.t (v:=undef) 23 32 rfl rfl (by kernel_rfl) (fun _ _ _ h=>h) hHeld (Or.inr ⟨by rfl,rfl⟩) ?_;(try simp only [Act.put,List.setIfInBounds_toArray,List.set_cons_zero,List.set_cons_succ]))
    (refine aA6.t (v:=undef) 24 33 rfl rfl (by kernel_rfl) (fun _ _ _ h=>h) hHeld (Or.inr ⟨by rfl,rfl⟩) ?_;(try simp only [Act.put,List.setIfInBounds_toArray,List.set_cons_zero,List.set_cons_succ]))
    (refine aA6.t (v:=?_) 25 34 rfl rfl (by kernel_rfl) (fun _ _ _ h=>h) hHeld (Or.inl ⟨by rfl,?_⟩) ?_;rotate_left 1;focus (intro w' hSw;(try dsimp only at hSw);go_simp;(try with_reducible rfl);done))
    refine aA6.one (i:=26) (by kernel_rfl) rfl (fun K hK=>?_)
    go_simp
    refine hK.out _ _ (fun h=>absurd rfl h) ?_
    clear hK K hHeld;refine aA6.done (by kernel_rfl) ?_ _
    go_wp2_with fail
    go_ret;exact ⟨aA2 (by rw [HF.out];rfl),aA1 HW⟩
theorem aCc (v1:Value) (p:Prg) (v2:Value) (g:Graph) (v3:Value) (c:aA5) (n:Int) (w:World) (h:aEo w v1 p) (h2:aAm w v2 g) (h3:aAr w v3 c):Calls prog 16 #[v1,v2,v3,.int .i64 n] w fun e w'=>e = .returned (.bool (aHg p g c n))/\Bel w w':=by
 have HPV:=aA0 (fun w' (k:Bel w w')=>h.keep k);have HGV:=aA0 (fun w' (k:Bel w w')=>h2.keep k);have HCV:=aA0 (fun w' (k:Bel w w')=>h3.keep k);obtain ⟨A1,k1,A2,k2,rfl,_,_,_,_,_,_⟩:=h;obtain ⟨A3,k3,A4,k4,rfl,_,_,_,_,_,_⟩:=h2;obtain ⟨A5,k5,rfl,_,_,_⟩:=h3;have HW:=Bel.refl ((w.alloc (.cells #[.string p.name,.slice A1 p.vars.length k1,.slice A2 p.rules.length k2] 25)).alloc (.cells #[.slice A3 g.ids.length k3,.slice A4 g.ports.length k4] 29));have HF:Hid (aHg p g c n=(aLy p g c n&&decide (aD5 p g c=0))):=rfl;cases hq:aLy p g c n with
 | false =>
  rw [hq] at HF;go_enter func16,ntmps16
  go_wp2_with (go_at_call 11;refine (aNg _ p _ g _ c n _ (HPV.out _ (aA1 HW)) (HGV.out _ (aA1 HW)) (HCV.out _ (aA1 HW))).mono ?_;rintro e w' ⟨rfl,hb⟩;rw [hq];replace HW:=HW.trans hb;clear hb;(try clear p0 p1 p2 g0 g1 gsz);obtain ⟨p0,p1,p2,g0,g1,gsz⟩:=aAf HW)
  go_ret;exact ⟨aA2 (by rw [HF.out];rfl),aA1 HW⟩
 | true =>
  have HL:=aA0 (aKj hq);rw [hq] at HF;go_enter func16,ntmps16
  go_wp2_with (first
   | (go_at_call 11;refine (aNg _ p _ g _ c n _ (HPV.out _ (aA1 HW)) (HGV.out _ (aA1 HW)) (HCV.out _ (aA1 HW))).mono ?_;rintro e w' ⟨rfl,hb⟩;rw [hq];replace HW:=HW.trans hb;clear hb;(try clear p0 p1 p2 g0 g1 gsz);obtain ⟨p0,p1,p2,g0,g1,gsz⟩:=aAf HW)
   | (go_at_call 42;refine (aMo _ p _ g _ c _ (HPV.out _ (aA1 HW)) (HGV.out _ (aA1 HW)) (HCV.out _ (aA1 HW)) HL.out.1 HL.out.2.1 HL.out.2.2.1).mono ?_;rintro e w' ⟨rfl,hb⟩;replace HW:=HW.trans hb;clear hb;(try clear p0 p1 p2 g0 g1 gsz);obtain ⟨p0,p1,p2,g0,g1,gsz⟩:=aAf HW))
  go_ret;exact ⟨aA2 (by rw [HF.out];simp),aA1 HW⟩
end Go.Proofs.YtdcjnhoabbdanaaGreatDoor

