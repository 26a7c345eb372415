/- Merged. -/
import Derived.Test.YtdcjnhoabbdanaaGreatDoorZ40
set_option linter.unusedSimpArgs false
set_option linter.unnecessarySimpa false
set_option linter.unusedVariables false
set_option maxRecDepth 100000

namespace Go.Proofs.YtdcjnhoabbdanaaGreatDoor
open Go.RowKit
def aO1 (N B:Nat) (w W:World):Prop:=w.heap.size<=W.heap.size/\∀ k,N<=k->k≠B->k<w.heap.size->W.heap[k]?=w.heap[k]?
theorem aO1.refl (N B:Nat) (w:World):aO1 N B w w:=⟨Nat.le_refl _,fun _ _ _ _=>rfl⟩
theorem aO1.of_new {N B M:Nat} {w W V:World} (h:aO1 N B w V) (hM:N<=M) (hB:∀ k,M<=k->k<W.heap.size->k≠B) (hz:W.heap.size<=w.heap.size) (hk:∀ k,M<=k->k<W.heap.size->w.heap[k]?=W.heap[k]?):aAv M W V :=
 ⟨Nat.le_trans hz h.1,fun k h1 h2=>(h.2 k (Nat.le_trans hM h1) (hB k h1 h2) (Nat.lt_of_lt_of_le h2 hz)).trans (hk k h1 h2)⟩
theorem aO1.back {N B:Nat} {a w W:World} (h:aO1 N B w W) (k:Bel a w):aO1 N B a W:=⟨Nat.le_trans k.size h.1,fun i h1 h2 h3=>(h.2 i h1 h2 (Nat.lt_of_lt_of_le h3 k.size)).trans (k.block i h3)⟩
def aC8 (b:Int) (r:Option Trc) (w:World) (e:Ending) (w':World):Prop :=
 ∃ vt,e = .returned (.tuple #[vt,.int .i64 (if b=0 then (aVl r).2 else b)])/\(∀ W,aAv w.heap.size w' W->aB5 W vt (if b=0 then (aVl r).1 else ⟨[],[],[],⟨0,0,0,0,0⟩⟩))/\Bel w w'
theorem aC8.no {b:Int} {r:Option Trc} {w w':World} (hb:b≠0) (h:Bel w w'):aC8 b r w (.returned (.tuple #[.agg #[.slice none 0 0,.slice none 0 0,.slice none 0 0,.int .i64 0,.int .i64 0,.int .i64 0,.int .i64 0,.int .u32 0],.int .i64 b])) w' :=
 ⟨_,by rw [if_neg hb],fun W _=>by rw [if_neg hb];exact aB5.zero _,h⟩
theorem aC8.none {b:Int} {r:Option Trc} {w w':World} (hb:b=0) (hr:r=none) (h:Bel w w'):aC8 b r w (.returned (.tuple #[.agg #[.slice none 0 0,.slice none 0 0,.slice none 0 0,.int .i64 0,.int .i64 0,.int .i64 0,.int .i64 0,.int .u32 0],.int .i64 11])) w' :=
 ⟨_,by rw [if_pos hb,hr];rfl,fun W _=>by rw [if_pos hb,hr];exact aB5.zero _,h⟩
theorem aC8.some {b:Int} {r:Option Trc} {t:Trc} {w w':World} {v:Value} (hb:b=0) (hr:r=some t) (hv:∀ W,aAv w.heap.size w' W->aB5 W v t) (h:Bel w w'):aC8 b r w (.returned (.tuple #[v,.int .i64 0])) w' :=
 ⟨_,by rw [if_pos hb,hr];rfl,fun W k=>by rw [if_pos hb,hr];exact hv W k,h⟩
def aSg (T:Trc) (er:Int) (w:World) (e:Ending) (w':World):Prop:=∃ A1 k1 A2 k2 A3 k3,
 e = .returned (.tuple #[.agg #[.slice A1 T.chosen.length k1,.slice A2 T.enabled.length k2,.slice A3 T.last.length k3,.int .i64 T.count.steps,.int .i64 T.count.moves,.int .i64 T.count.rounds,.int .i64 T.count.begun,.int .u32 (T.count.pending:Int)],.int .i64 er]) /\
  (∀ W,Agr (fun k=>k<w.heap.size) w' W->aAd W A1 T.chosen.length T.chosen)/\T.chosen.length<=k1/\k1<=maxLen/\(∀ W,Agr (fun k=>k<w.heap.size) w' W->aAd W A2 T.enabled.length T.enabled)/\T.enabled.length<=k2/\k2<=maxLen/\(∀ W,Agr (fun k=>k<w.heap.size) w' W->aAy W (.slice A3 T.last.length k3) T.last)/\Bel w w'
theorem aSg.of {T:Trc} {er:Int} {vt:Value} {w w':World} (hW:∀ W,Agr (fun k=>k<w.heap.size) w' W->aB5 W vt T) (hb:Bel w w'):aSg T er w (.returned (.tuple #[vt,.int .i64 er])) w':=by
 obtain ⟨A1,k1,A2,k2,A3,k3,rfl,q1,q2,q3,q4,q5,q6,q7⟩:=hW w' (Agr.refl _ _)
 have hp:∀ W,Agr (fun k=>k<w.heap.size) w' W->aAd W A1 T.chosen.length T.chosen/\aAd W A2 T.enabled.length T.enabled/\aAy W (.slice A3 T.last.length k3) T.last:=fun W k=>by
  obtain ⟨B1,j1,B2,j2,B3,j3,e,a1,_,_,a4,_,_,a7⟩:=hW W k;obtain ⟨⟨rfl,rfl⟩,⟨rfl,rfl⟩,rfl,rfl⟩:(A1=B1/\k1=j1)/\(A2=B2/\k2=j2)/\A3=B3/\k3=j3:=by simpa using e
  exact ⟨a1,a4,a7⟩
 exact ⟨A1,k1,A2,k2,A3,k3,rfl,fun W k=>(hp W k).1,q2,q3,fun W k=>(hp W k).2.1,q5,q6,fun W k=>(hp W k).2.2,hb⟩
def zeroT:Trc:=⟨[],[],[],⟨0,0,0,0,0⟩⟩
def bA8 (b:Int) (r:Option Trc):Trc:=if b=0 then (aVl r).1 else zeroT
def bA7 (b:Int) (r:Option Trc):Int:=if b=0 then (aVl r).2 else b
theorem aEz.te {b:Int} {r:Option Trc} {w w':World} {e:Ending} (h:aEz b r w e w'):aSg (bA8 b r) (bA7 b r) w e w':=by
 obtain ⟨vt,rfl,hV,hb⟩:=h;exact .of (fun W k=>hV W k) hb
theorem aC8.te {b:Int} {r:Option Trc} {w w':World} {e:Ending} (h:aC8 b r w e w'):aSg (bA8 b r) (bA7 b r) w e w':=by
 obtain ⟨vt,rfl,hV,hb⟩:=h;exact .of (fun W k=>hV W ⟨k.size,fun i h1 h2=>k.block i h2 (by omega)⟩) hb
structure TrB (N rb bt:Nat) (t:Trc) (C7:Option Addr) (j7:Nat) (C8:Option Addr) (j8:Nat) (C9:Option Addr) (j9:Nat) (w:World):Prop where
 box:Blk w bt #[.slice C7 t.chosen.length j7,.slice C8 t.enabled.length j8,.slice C9 t.last.length j9,.int .i64 t.count.steps,.int .i64 t.count.moves,.int .i64 t.count.rounds,.int .i64 t.count.begun,.int .u32 (t.count.pending:Int)] 38
 val:∀ W,aO1 N bt w W->aB5 W (.agg #[.slice C7 t.chosen.length j7,.slice C8 t.enabled.length j8,.slice C9 t.last.length j9,.int .i64 t.count.steps,.int .i64 t.count.moves,.int .i64 t.count.rounds,.int .i64 t.count.begun,.int .u32 (t.count.pending:Int)]) t
 res:Blk w rb #[.slice none 0 0,.slice none 0 0,.slice none 0 0,.int .i64 0,.int .i64 0,.int .i64 0,.int .i64 0,.int .u32 0] 38
 lt:rb<N/\N<=bt
theorem TrB.val0 {N rb bt:Nat} {t:Trc} {C7:Option Addr} {j7:Nat} {C8:Option Addr} {j8:Nat} {C9:Option Addr} {j9:Nat} {w:World} (h:TrB N rb bt t C7 j7 C8 j8 C9 j9 w):aB5 w (.agg #[.slice C7 t.chosen.length j7,.slice C8 t.enabled.length j8,.slice C9 t.last.length j9,.int .i64 t.count.steps,.int .i64 t.count.moves,.int .i64 t.count.rounds,.int .i64 t.count.begun,.int .u32 (t.count.pending:Int)]) t:=h.val w (aO1.refl _ _ _)
theorem TrB.keep {N rb bt:Nat} {t:Trc} {C7:Option Addr} {j7:Nat} {C8:Option Addr} {j8:Nat} {C9:Option Addr} {j9:Nat} {w w':World} (h:TrB N rb bt t C7 j7 C8 j8 C9 j9 w) (k:Bel w w'):TrB N rb bt t C7 j7 C8 j8 C9 j9 w' :=
 ⟨h.box.keep k,fun W hW=>h.val W (hW.back k),h.res.keep k,h.lt⟩
theorem TrB.next {N rb bt:Nat} {t t':Trc} {C7 D7:Option Addr} {j7 i7:Nat} {C8 D8:Option Addr} {j8 i8:Nat} {C9 D9:Option Addr} {j9 i9:Nat} {w w':World} (h:TrB N rb bt t C7 j7 C8 j8 C9 j9 w) (k:Bel w w')
  (hv:∀ W,aAv w.heap.size w' W->aB5 W (.agg #[.slice D7 t'.chosen.length i7,.slice D8 t'.enabled.length i8,.slice D9 t'.last.length i9,.int .i64 t'.count.steps,.int .i64 t'.count.moves,.int .i64 t'.count.rounds,.int .i64 t'.count.begun,.int .u32 (t'.count.pending:Int)]) t'):TrB N rb bt t' D7 i7 D8 i8 D9 i9 ((((((((w'.setCell ⟨bt,0,none⟩ (.slice D7 t'.chosen.length i7)).setCell ⟨bt,1,none⟩ (.slice D8 t'.enabled.length i8)).setCell ⟨bt,2,none⟩ (.slice D9 t'.last.length i9)).setCell ⟨bt,3,none⟩ (.int .i64 t'.count.steps)).setCell ⟨bt,4,none⟩ (.int .i64 t'.count.moves)).setCell ⟨bt,5,none⟩ (.int .i64 t'.count.rounds)).setCell ⟨bt,6,none⟩ (.int .i64 t'.count.begun)).setCell ⟨bt,7,none⟩ (.int .u32 (t'.count.pending:Int))):=by
 have hb:=h.box.keep k;have hl:=h.lt;have hlt:=h.box.lt;have hag:=(show Agr (fun k=>k=bt) w' ((((((((w'.setCell ⟨bt,0,none⟩ (.slice D7 t'.chosen.length i7)).setCell ⟨bt,1,none⟩ (.slice D8 t'.enabled.length i8)).setCell ⟨bt,2,none⟩ (.slice D9 t'.last.length i9)).setCell ⟨bt,3,none⟩ (.int .i64 t'.count.steps)).setCell ⟨bt,4,none⟩ (.int .i64 t'.count.moves)).setCell ⟨bt,5,none⟩ (.int .i64 t'.count.rounds)).setCell ⟨bt,6,none⟩ (.int .i64 t'.count.begun)).setCell ⟨bt,7,none⟩ (.int .u32 (t'.count.pending:Int))) from Agr.trace (E:=fun k=>k=bt) rfl)
 refine ⟨hb.trace,fun W hW=>hv W (hW.of_new (by omega) (fun i h1 h2=>by omega) hag.size fun i h1 h2=>hag.block i h2 (by omega)),?_,hl⟩
 exact hag.blk (h.res.keep k) (by omega)
theorem TrB.first {N rb bt:Nat} {t':Trc} {D7:Option Addr} {i7:Nat} {D8:Option Addr} {i8:Nat} {D9:Option Addr} {i9:Nat} {w w':World} (hr:Blk w rb #[.slice none 0 0,.slice none 0 0,.slice none 0 0,.int .i64 0,.int .i64 0,.int .i64 0,.int .i64 0,.int .u32 0] 38) (k:Bel w w') (hN:rb<N) (hw:N<=w.heap.size) (hbt:bt=w'.heap.size)
  (hv:∀ W,aAv w.heap.size w' W->aB5 W (.agg #[.slice D7 t'.chosen.length i7,.slice D8 t'.enabled.length i8,.slice D9 t'.last.length i9,.int .i64 t'.count.steps,.int .i64 t'.count.moves,.int .i64 t'.count.rounds,.int .i64 t'.count.begun,.int .u32 (t'.count.pending:Int)]) t'):TrB N rb bt t' D7 i7 D8 i8 D9 i9 (w'.alloc (.cells #[.slice D7 t'.chosen.length i7,.slice D8 t'.enabled.length i8,.slice D9 t'.last.length i9,.int .i64 t'.count.steps,.int .i64 t'.count.moves,.int .i64 t'.count.rounds,.int .i64 t'.count.begun,.int .u32 (t'.count.pending:Int)] 38)):=by
 subst hbt;have hz:=k.size;refine ⟨Blk.new _ _ _,fun W hW=>hv W (hW.of_new hw (fun i h1 h2=>by omega) (by simp) fun i h1 h2=>((Bel.refl w').alloc _).block i h2),(hr.keep k).alloc _,hN,by omega⟩
theorem TrB.last {N rb bt n:Nat} {t:Trc} {C7:Option Addr} {j7:Nat} {C8:Option Addr} {j8:Nat} {C9:Option Addr} {j9:Nat} {w w' W:World} (h:TrB N rb bt t C7 j7 C8 j8 C9 j9 w) (hag:Agr (fun k=>k=rb) w w') (hn:n<=N) (hW:aAv n w' W):aB5 W (.agg #[.slice C7 t.chosen.length j7,.slice C8 t.enabled.length j8,.slice C9 t.last.length j9,.int .i64 t.count.steps,.int .i64 t.count.moves,.int .i64 t.count.rounds,.int .i64 t.count.begun,.int .u32 (t.count.pending:Int)]) t :=
 h.val W ⟨Nat.le_trans hag.size hW.1,fun k h1 _ h3=>(hW.2 k (by omega) (Nat.lt_of_lt_of_le h3 hag.size)).trans (hag.block k h3 (by have:=h.lt;omega))⟩
theorem TrB.parts {N rb bt:Nat} {t:Trc} {C7:Option Addr} {j7:Nat} {C8:Option Addr} {j8:Nat} {C9:Option Addr} {j9:Nat} {w:World} (h:TrB N rb bt t C7 j7 C8 j8 C9 j9 w):aAd w C7 t.chosen.length t.chosen/\aAd w C8 t.enabled.length t.enabled/\aAy w (.slice C9 t.last.length j9) t.last:=by
 obtain ⟨A1,k1,A2,k2,A3,k3,e,a1,a2,a3,a4,a5,a6,a7⟩:=h.val w (aO1.refl _ _ _);obtain ⟨⟨rfl,rfl⟩,⟨rfl,rfl⟩,rfl,rfl⟩:(C7=A1/\j7=k1)/\(C8=A2/\j8=k2)/\C9=A3/\j9=k3:=by simpa using e
 exact ⟨a1,a4,a7⟩
theorem OkT.nowAt {p:Prg} {g:Graph} {t:Trc} {i:Nat} (h:OkT p g t) (hi:t.chosen.length=i) (hl:i<t.enabled.length):t.enabled[i]=aAj p g t.last:=by
 have hn:=h.now;rw [List.getLast?_eq_getElem?,h.len,hi,Nat.add_sub_cancel,List.getElem?_eq_getElem hl] at hn;exact Option.some.inj hn
end Go.Proofs.YtdcjnhoabbdanaaGreatDoor

