/- Merged. -/
import Derived.Test.YtdcjnhoabbdanaaGreatDoorZ42
import Derived.Test.YtdcjnhoabbdanaaGreatDoorZ43
set_option linter.unusedSimpArgs false
set_option linter.unnecessarySimpa false
set_option linter.unusedVariables false
set_option maxRecDepth 100000

namespace Go.Proofs.YtdcjnhoabbdanaaGreatDoor
open Go.RowKit
def aYh (t:Trc):List Value:=(aC9 t.count).toList
structure WR (bt:Nat) (t:Trc) (C7:Option Addr) (j7:Nat) (C8:Option Addr) (j8:Nat) (C9:Option Addr) (j9:Nat) (ts us:List Trc) (AX:Option Addr) (cX:Nat) (AY:Option Addr) (cY:Nat) (hs:List Value) (C:Nat->Prop) (w:World):Prop where
 box:Blk w bt #[.slice C7 t.chosen.length j7,.slice C8 t.enabled.length j8,.slice C9 t.last.length j9,.int .i64 t.count.steps,.int .i64 t.count.moves,.int .i64 t.count.rounds,.int .i64 t.count.begun,.int .u32 (t.count.pending:Int)] 38
 val:∀ W,w.heap.size<=W.heap.size->(∀ k,C k->W.heap[k]?=w.heap[k]?)->aB5 W (.agg #[.slice C7 t.chosen.length j7,.slice C8 t.enabled.length j8,.slice C9 t.last.length j9,.int .i64 t.count.steps,.int .i64 t.count.moves,.int .i64 t.count.rounds,.int .i64 t.count.begun,.int .u32 (t.count.pending:Int)]) t
 row1:w.ownsRow (bt+1) 30 1 (.slice AX ts.length cX) ts.length hs
 row2:w.ownsRow (bt+1) 36 5 (.slice AY us.length cY) us.length (us.flatMap aYh)
 off:∀ k,C k->k≠bt/\ob AX ts.length cX≠some k/\ob AY us.length cY≠some k
 dom:∀ k,C k->k<w.heap.size
 rows:∀ (u:Nat) (x:Trc),ts[u]?=some x->∃ v,hs[u]?=some v/\∀ W,w.heap.size<=W.heap.size->(∀ k,C k->W.heap[k]?=w.heap[k]?)->aAy W v x.last
variable {bt:Nat} {t t':Trc} {C7 D7:Option Addr} {j7 i7:Nat} {C8 D8:Option Addr} {j8 i8:Nat} {C9 D9:Option Addr} {j9 i9:Nat} {ts us:List Trc} {AX:Option Addr} {cX:Nat} {AY:Option Addr} {cY:Nat} {hs:List Value} {C:Nat->Prop} {w w':World}
theorem WR.val0 (h:WR bt t C7 j7 C8 j8 C9 j9 ts us AX cX AY cY hs C w):aB5 w (.agg #[.slice C7 t.chosen.length j7,.slice C8 t.enabled.length j8,.slice C9 t.last.length j9,.int .i64 t.count.steps,.int .i64 t.count.moves,.int .i64 t.count.rounds,.int .i64 t.count.begun,.int .u32 (t.count.pending:Int)]) t:=h.val w (Nat.le_refl _) fun _ _=>rfl
theorem WR.bel (h:WR bt t C7 j7 C8 j8 C9 j9 ts us AX cX AY cY hs C w) (k:Bel w w'):WR bt t C7 j7 C8 j8 C9 j9 ts us AX cX AY cY hs C w' where
 box:=h.box.keep k
 val:=fun W hz hC=>h.val W (Nat.le_trans k.size hz) fun q hq=>(hC q hq).trans (k.block q (h.dom q hq))
 row1:=k.owns h.row1
 row2:=k.owns h.row2
 off:=h.off
 dom:=fun q hq=>Nat.lt_of_lt_of_le (h.dom q hq) k.size
 rows:=fun u x hx=>by
  obtain ⟨v,h1,h2⟩:=h.rows u x hx;exact ⟨v,h1,fun W hz hC=>h2 W (Nat.le_trans k.size hz) fun q hq=>(hC q hq).trans (k.block q (h.dom q hq))⟩
theorem WR.next (h:WR bt t C7 j7 C8 j8 C9 j9 ts us AX cX AY cY hs C w) (k:Bel w w')
  (hv:∀ W,aAv w.heap.size w' W->aB5 W (.agg #[.slice D7 t'.chosen.length i7,.slice D8 t'.enabled.length i8,.slice D9 t'.last.length i9,.int .i64 t'.count.steps,.int .i64 t'.count.moves,.int .i64 t'.count.rounds,.int .i64 t'.count.begun,.int .u32 (t'.count.pending:Int)]) t') :
  WR bt t' D7 i7 D8 i8 D9 i9 ts us AX cX AY cY hs (fun q=>C q∨w.heap.size<=q/\q<w'.heap.size) ((((((((w'.setCell ⟨bt,0,none⟩ (.slice D7 t'.chosen.length i7)).setCell ⟨bt,1,none⟩ (.slice D8 t'.enabled.length i8)).setCell ⟨bt,2,none⟩ (.slice D9 t'.last.length i9)).setCell ⟨bt,3,none⟩ (.int .i64 t'.count.steps)).setCell ⟨bt,4,none⟩ (.int .i64 t'.count.moves)).setCell ⟨bt,5,none⟩ (.int .i64 t'.count.rounds)).setCell ⟨bt,6,none⟩ (.int .i64 t'.count.begun)).setCell ⟨bt,7,none⟩ (.int .u32 (t'.count.pending:Int))):=by
 have hlt:=h.box.lt;have hag:=Agr.trace (E:=fun q=>q=bt) (w3:=w') (b:=bt) rfl (v0 := .slice D7 t'.chosen.length i7) (v1 := .slice D8 t'.enabled.length i8) (v2 := .slice D9 t'.last.length i9) (v3 := .int .i64 t'.count.steps) (v4 := .int .i64 t'.count.moves) (v5 := .int .i64 t'.count.rounds) (v6 := .int .i64 t'.count.begun) (v7 := .int .u32 (t'.count.pending:Int));refine ⟨Blk.trace (h.box.keep k),fun W hz hC=>hv W ⟨Nat.le_trans hag.size hz,fun q h1 h2=>(hC q (.inr ⟨h1,h2⟩)).trans (hag.block q h2 (by omega))⟩,?_,?_,?_,?_,?_⟩
 .exact aCc (k.owns h.row1) hag fun q hq e=>by have:=(aCx h.row1 hq).1;omega
 .exact aCc (k.owns h.row2) hag fun q hq e=>by have:=(aCx h.row2 hq).1;omega
 .rintro q (hq | hq)
  .exact h.off q hq
  .exact ⟨by omega,fun e=>by have:=(aCx h.row1 e).2;omega,fun e=>by have:=(aCx h.row2 e).2;omega⟩
 .rintro q (hq | hq)
  .exact Nat.lt_of_lt_of_le (Nat.lt_of_lt_of_le (h.dom q hq) k.size) hag.size
  .exact Nat.lt_of_lt_of_le hq.2 hag.size
 .intro u x hx
  obtain ⟨v,h1,h2⟩:=h.rows u x hx;exact ⟨v,h1,fun W hz hC=>h2 W (Nat.le_trans (Nat.le_trans k.size hag.size) hz) fun q hq=>((hC q (.inl hq)).trans (hag.block q (Nat.lt_of_lt_of_le (h.dom q hq) k.size) (h.off q hq).1)).trans (k.block q (h.dom q hq))⟩
theorem WR.push1 {AX':Option Addr} {cX':Nat} (h:WR bt t C7 j7 C8 j8 C9 j9 ts us AX cX AY cY hs C w) (hown:w'.ownsRow (bt+1) 30 1 (.slice AX' (ts.length+1) cX') (ts.length+1) (hs++(#[Value.slice C9 t.last.length j9]:Array Value).toList)) (hgr:w.grownBy w' (Value.slice AX ts.length cX).ownBlock)
  (hat:(Value.slice AX' (ts.length+1) cX').ownBlock=(Value.slice AX ts.length cX).ownBlock∨(Value.slice AX' (ts.length+1) cX').ownBlock=some w.heap.size) :
  WR bt t C7 j7 C8 j8 C9 j9 (ts++[t]) us AX' cX' AY cY (hs++[Value.slice C9 t.last.length j9]) C w':=by
 have hl:(ts++[t]).length=ts.length+1:=by simp
 have hag:Agr (fun q=>ob AX ts.length cX=some q) w w':=Agr.grownV hgr fun q hq=>hq.symm;have hk:∀ q,C q->w'.heap[q]?=w.heap[q]?:=fun q hq=>hag.block q (h.dom q hq) (h.off q hq).2.1;have hrow:hs.length=ts.length:=by have:=h.row1.1;omega
 refine ⟨hag.blk h.box (fun e=>by have:=(aCx h.row1 e).1;omega),fun W hz hC=>h.val W (Nat.le_trans hag.size hz) fun q hq=>(hC q hq).trans (hk q hq),?_,?_,?_,?_,?_⟩
 .rw [hl];exact hown
 .refine aCc h.row2 hag fun q hq e=>?_
  rcases aEs h.row1 h.row2 (by decide) with x | x
  .exact absurd (hq.symm.trans x) (by simp)
  .exact x (hq.trans e.symm)
 .intro q hq
  obtain ⟨o1,o2,o3⟩:=h.off q hq;refine ⟨o1,fun e=>?_,o3⟩
  rw [hl] at e
  rcases hat with x | x
  .exact o2 (x.symm.trans e)
  .have:=h.dom q hq
   have e2:some w.heap.size=some q:=x.symm.trans e;have:=Option.some.inj e2;omega
 .exact fun q hq=>Nat.lt_of_lt_of_le (h.dom q hq) hag.size
 .intro u x hx
  by_cases hu:u<ts.length
  .rw [List.getElem?_append_left hu] at hx
   obtain ⟨v,h1,h2⟩:=h.rows u x hx;exact ⟨v,by rw [List.getElem?_append_left (by omega)];exact h1,fun W hz hC=>h2 W (Nat.le_trans hag.size hz) fun q hq=>(hC q hq).trans (hk q hq)⟩
  .have hue:u=ts.length:=by
    have:=(List.getElem?_eq_some_iff.1 hx).1;simp at this;omega
   subst hue;rw [List.getElem?_append_right (Nat.le_refl _)] at hx;obtain rfl:t=x:=by simpa using hx
   refine ⟨_,by rw [List.getElem?_append_right (by omega),hrow,Nat.sub_self];rfl,fun W hz hC=>?_⟩
   obtain ⟨_,_,_,_,_,_,e,_,_,_,_,_,_,h7⟩:=h.val W (Nat.le_trans hag.size hz) fun q hq=>(hC q hq).trans (hk q hq);obtain ⟨_,_,rfl,rfl⟩:(C7=_/\j7=_)/\(C8=_/\j8=_)/\C9=_/\j9=_:=by simpa using e
   exact h7
theorem WR.push2 {AY':Option Addr} {cY':Nat} (h:WR bt t C7 j7 C8 j8 C9 j9 ts us AX cX AY cY hs C w) (hown:w'.ownsRow (bt+1) 36 5 (.slice AY' (us.length+1) cY') (us.length+1) (us.flatMap aYh++(#[Value.int .i64 t.count.steps,Value.int .i64 t.count.moves,Value.int .i64 t.count.rounds,Value.int .i64 t.count.begun,Value.int .u32 (t.count.pending:Int)]:Array Value).toList)) (hgr:w.grownBy w' (Value.slice AY us.length cY).ownBlock)
  (hat:(Value.slice AY' (us.length+1) cY').ownBlock=(Value.slice AY us.length cY).ownBlock∨(Value.slice AY' (us.length+1) cY').ownBlock=some w.heap.size) :
  WR bt t C7 j7 C8 j8 C9 j9 ts (us++[t]) AX cX AY' cY' hs C w':=by
 have hl:(us++[t]).length=us.length+1:=by simp
 have hag:Agr (fun q=>ob AY us.length cY=some q) w w':=Agr.grownV hgr fun q hq=>hq.symm;have hk:∀ q,C q->w'.heap[q]?=w.heap[q]?:=fun q hq=>hag.block q (h.dom q hq) (h.off q hq).2.2;refine ⟨hag.blk h.box (fun e=>by have:=(aCx h.row2 e).1;omega),fun W hz hC=>h.val W (Nat.le_trans hag.size hz) fun q hq=>(hC q hq).trans (hk q hq),?_,?_,?_,?_,?_⟩
 .refine aCc h.row1 hag fun q hq e=>?_
  rcases aEs h.row1 h.row2 (by decide) with x | x
  .exact absurd (e.symm.trans x) (by simp)
  .exact x (e.trans hq.symm)
 .rw [hl,List.flatMap_append];exact hown
 .intro q hq
  obtain ⟨o1,o2,o3⟩:=h.off q hq;refine ⟨o1,o2,fun e=>?_⟩
  rw [hl] at e
  rcases hat with x | x
  .exact o3 (x.symm.trans e)
  .have:=h.dom q hq
   have e2:some w.heap.size=some q:=x.symm.trans e;have:=Option.some.inj e2;omega
 .exact fun q hq=>Nat.lt_of_lt_of_le (h.dom q hq) hag.size
 .intro u x hx
  obtain ⟨v,h1,h2⟩:=h.rows u x hx;exact ⟨v,h1,fun W hz hC=>h2 W (Nat.le_trans hag.size hz) fun q hq=>(hC q hq).trans (hk q hq)⟩
end Go.Proofs.YtdcjnhoabbdanaaGreatDoor

