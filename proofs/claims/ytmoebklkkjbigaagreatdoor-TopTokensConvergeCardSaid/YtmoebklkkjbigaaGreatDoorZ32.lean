/- Merged. -/
import Derived.Test.YtmoebklkkjbigaaGreatDoorZ31
set_option linter.unusedSimpArgs false
set_option linter.unnecessarySimpa false
set_option linter.unusedVariables false
set_option maxRecDepth 100000

namespace Go.Proofs.YtmoebklkkjbigaaGreatDoor
open Go.RowKit
def aI7 (k:Cnt):Array Value:=#[.int .i64 k.steps,.int .i64 k.moves,.int .i64 k.rounds,.int .i64 k.begun,.int .u32 (k.pending:Int)]
def aEn (v1 v2:Value):Array Value:=#[v1,v2,.slice none 0 0,.int .i64 0,.int .i64 0,.int .i64 0,.int .i64 0,.int .u32 0]
def ob (A:Option Addr) (n k:Nat):Option Nat:=(Value.slice A n k).ownBlock
section
variable {P:Program} {N0:Nat} {f:FuncId} {caps:Array Value} {cv:Cnt->Value} {en:Trc->Nat} {ok:Trc->Prop} {Inv:(Nat->Prop)->List (Value × Trc)->World->Prop}
structure RunI (N0:Nat) (w:World) (M0:Nat->Prop) (rc:Array Value) (cb:Nat) (Rd Ex:World->Prop) (Inv:(Nat->Prop)->List (Value × Trc)->World->Prop) (s0:List (Value × Trc))
  (W:World) (M X:Nat->Prop) (L:List (Value × Trc)) (l1 l2:List Nat) (A1:Option Addr) (k1:Nat) (A2:Option Addr) (k2:Nat) (kc:Cnt):Prop where
 rbox:Blk W w.heap.size rc 114
 rres:Blk W (w.heap.size+1) (aEn (.slice none 0 0) (.slice none 0 0)) 70
 tr:Blk W (w.heap.size+1+1) (aEn (.slice A1 l1.length k1) (.slice A2 l2.length k2)) 70
 cnt:Blk W cb (aI7 kc) 68
 row1:W.ownsRow (w.heap.size+1+1+1) 46 1 (.slice A1 l1.length k1) l1.length (l1.map aGa)
 row2:W.ownsRow (w.heap.size+1+1+1) 46 1 (.slice A2 l2.length k2) l2.length (l2.map aGa)
 far:∀ k,ob A1 l1.length k1=some k->ob A2 l2.length k2≠some k
 off:∀ k,M k->k≠w.heap.size/\k≠w.heap.size+1/\k≠w.heap.size+1+1/\k≠cb/\ob A1 l1.length k1≠some k/\ob A2 l2.length k2≠some k
 cbx:w.heap.size+1+1+1<=cb
 inX:∀ k,M k∨k=w.heap.size+1∨k=w.heap.size+1+1∨k=cb∨ob A1 l1.length k1=some k∨ob A2 l2.length k2=some k->X k
 inv:Inv M (s0++L) W
 rd:Rb X Rd W
 confs:∀ x∈L,Rb (fun k=>X k∨k<w.heap.size) (fun W=>aD2 W x.1 x.2.last) W
 ext:Rb (fun k=>X k∨k<w.heap.size) Ex W
 agr:Agr M0 w W
 newM:∀ k,M k->M0 k∨w.heap.size<=k
 low:N0<=w.heap.size
 xlt:∀ k,X k->k<W.heap.size
 sup:∀ k,M0 k->M k
variable {w:World} {M0:Nat->Prop} {rc:Array Value} {cb:Nat} {Rd Ex:World->Prop} {s0:List (Value × Trc)} {W W':World} {M X:Nat->Prop} {L:List (Value × Trc)} {l1 l2:List Nat} {A1:Option Addr} {k1:Nat} {A2:Option Addr} {k2:Nat} {kc:Cnt}
theorem aIy {W:World} {base:Nat} {e:TypeId} {size n c m:Nat} {A:Option Addr} {xs:List Value} (h:W.ownsRow base e size (.slice A n c) m xs) {k:Nat} (hk:ob A n c=some k):base<=k/\k<W.heap.size:=by
 refine ⟨bIt h k hk,?_⟩
 rcases h.2 with ⟨hv,_⟩ | ⟨g,cap,cur,hv,hb,hg,_⟩
 .injection hv with hA hn hc
  subst hA;simp [ob,Value.ownBlock] at hk
 .injection hv with hA hn hc
  subst hA;simp [ob,Value.ownBlock] at hk
  subst hk;exact lt_of_block hg
theorem aV5 {W:World} {base:Nat} {e t:TypeId} {size n c m B:Nat} {A:Option Addr} {xs:List Value} {cs:Array Value} (h:W.ownsRow base e size (.slice A n c) m xs) (hB:Blk W B cs t) (hne:t≠e):ob A n c≠some B:=fun hk=>by
 rcases h.2 with ⟨hv,_⟩ | ⟨g,cap,cur,hv,hb,hg,_⟩
 .injection hv with hA hn hc
  subst hA;simp [ob,Value.ownBlock] at hk
 .injection hv with hA hn hc
  subst hA;simp [ob,Value.ownBlock] at hk
  subst hk;unfold Blk at hB;rw [hB] at hg;injection hg with hg
  injection hg with _ ht
  exact hne ht
theorem RunI.bel (hS:Seer P N0 f caps cv en ok Inv) (h:RunI N0 w M0 rc cb Rd Ex Inv s0 W M X L l1 l2 A1 k1 A2 k2 kc) (k:Bel W W'):RunI N0 w M0 rc cb Rd Ex Inv s0 W' M X L l1 l2 A1 k1 A2 k2 kc where
 rbox:=h.rbox.keep k
 rres:=h.rres.keep k
 tr:=h.tr.keep k
 cnt:=h.cnt.keep k
 row1:=k.owns h.row1
 row2:=k.owns h.row2
 far:=h.far
 off:=h.off
 cbx:=h.cbx
 inX:=h.inX
 inv:=hS.keep _ _ _ _ h.inv k.size fun q hq=>k.block q (hq.elim (fun hq=>hS.dom _ _ _ h.inv q hq) fun hq=>by have:=h.low;have:=h.agr.size;omega)
 rd:=h.rd.bel k
 confs:=fun x hx=>(h.confs x hx).bel k
 ext:=h.ext.bel k
 agr:=h.agr.trans (Agr.of_belM k)
 newM:=h.newM
 low:=h.low
 xlt:=fun q hq=>Nat.lt_of_lt_of_le (h.xlt q hq) k.size
 sup:=h.sup
theorem RunI.see {M':Nat->Prop} {v:Value} {t:Trc} (hS:Seer P N0 f caps cv en ok Inv) (h:RunI N0 w M0 rc cb Rd Ex Inv s0 W M X L l1 l2 A1 k1 A2 k2 kc) (hA:Agr M W W') (hG:∀ k,M k->M' k) (hM:∀ k,M' k->M k∨W.heap.size<=k) (hI:Inv M' (s0++L++[(v,t)]) W')
  (hc:Rb (fun k=>X k∨k<w.heap.size) (fun W=>aD2 W v t.last) W):RunI N0 w M0 rc cb Rd Ex Inv s0 W' M' (fun k=>X k∨M' k) (L++[(v,t)]) l1 l2 A1 k1 A2 k2 kc:=by
 have up:∀ R:World->Prop,Rb X R W->Rb (fun k=>X k∨M' k) R W':=fun R hR=>(hR.more (M':=fun k=>X k∨M' k) fun k hk=>hk.elim .inl fun e=>(hM k e).imp (fun e=>h.inX k (.inl e)) id).go (hA.mono fun k hk => .inl (h.inX k (.inl hk)))
 have up2:∀ R:World->Prop,Rb (fun k=>X k∨k<w.heap.size) R W->Rb (fun k=>(X k∨M' k)∨k<w.heap.size) R W':=fun R hR=>(hR.more (M':=fun k=>(X k∨M' k)∨k<w.heap.size) fun k hk=>by
  rcases hk with (e | e) | e
  .exact .inl (.inl e)
  .exact (hM k e).imp (fun e => .inl (h.inX k (.inl e))) id
  .exact .inl (.inr e)).go (hA.mono fun k hk => .inl (.inl (h.inX k (.inl hk))))
 refine ⟨hA.blk h.rbox fun e=>(h.off _ e).1 rfl,hA.blk h.rres fun e=>(h.off _ e).2.1 rfl,hA.blk h.tr fun e=>(h.off _ e).2.2.1 rfl,hA.blk h.cnt fun e=>(h.off _ e).2.2.2.1 rfl,?_,?_,h.far,?_,h.cbx,?_,?_,up _ h.rd,?_,up2 _ h.ext,?_,?_,h.low,fun k hk=>hk.elim (fun e=>Nat.lt_of_lt_of_le (h.xlt k e) hA.size) fun e=>hS.dom _ _ _ hI k e,fun k hk=>hG k (h.sup k hk)⟩
 .exact aBi h.row1 hA fun k hk e=>(h.off _ e).2.2.2.2.1 hk
 .exact aBi h.row2 hA fun k hk e=>(h.off _ e).2.2.2.2.2 hk
 .intro k hk
  rcases hM k hk with e | e
  .exact h.off k e
  .have q0:=h.rbox.lt
   have q1:=h.rres.lt;have q2:=h.tr.lt;have q3:=h.cnt.lt;exact ⟨by omega,by omega,by omega,by omega,fun e'=>by have:=(aIy h.row1 e').2;omega,fun e'=>by have:=(aIy h.row2 e').2;omega⟩
 .rintro k (e | e)
  .exact .inr e
  .exact .inl (h.inX k (.inr e))
 .rw [<- List.append_assoc];exact hI
 .intro x hx
  rcases List.mem_append.1 hx with hx | hx
  .exact up2 _ (h.confs x hx)
  .obtain rfl:x=(v,t):=by simpa using hx
   exact up2 _ hc
 .exact ⟨hA.os.trans h.agr.os,hA.tape.trans h.agr.tape,hA.output.trans h.agr.output,Nat.le_trans h.agr.size hA.size,fun k hk hn=>(hA.block k (Nat.lt_of_lt_of_le hk h.agr.size) (fun e=>(h.newM k e).elim hn (fun e=>by omega))).trans (h.agr.block k hk hn)⟩
 .intro k hk
  rcases hM k hk with e | e
  .exact h.newM k e
  .right;have:=h.agr.size;omega
theorem RunI.turn {E X':Nat->Prop} {A1':Option Addr} {k1':Nat} {A2':Option Addr} {k2':Nat} {l1' l2':List Nat} {kc':Cnt} (hS:Seer P N0 f caps cv en ok Inv) (h:RunI N0 w M0 rc cb Rd Ex Inv s0 W M X L l1 l2 A1 k1 A2 k2 kc) (hA:Agr E W W')
  (hE:∀ k,E k->k=w.heap.size+1+1∨k=cb∨ob A1 l1.length k1=some k∨ob A2 l2.length k2=some k)
  (tr:Blk W' (w.heap.size+1+1) (aEn (.slice A1' l1'.length k1') (.slice A2' l2'.length k2')) 70) (cnt:Blk W' cb (aI7 kc') 68)
  (row1:W'.ownsRow (w.heap.size+1+1+1) 46 1 (.slice A1' l1'.length k1') l1'.length (l1'.map aGa)) (row2:W'.ownsRow (w.heap.size+1+1+1) 46 1 (.slice A2' l2'.length k2') l2'.length (l2'.map aGa))
  (far:∀ k,ob A1' l1'.length k1'=some k->ob A2' l2'.length k2'≠some k)
  (n1:ob A1' l1'.length k1'=ob A1 l1.length k1∨∃ k,ob A1' l1'.length k1'=some k/\W.heap.size<=k) (n2:ob A2' l2'.length k2'=ob A2 l2.length k2∨∃ k,ob A2' l2'.length k2'=some k/\W.heap.size<=k)
  (hX:X'=fun k=>X k∨ob A1' l1'.length k1'=some k∨ob A2' l2'.length k2'=some k) :
  RunI N0 w M0 rc cb Rd Ex Inv s0 W' M X' L l1' l2' A1' k1' A2' k2' kc':=by
 subst hX;have dm:=hS.dom _ _ _ h.inv
 have nE:∀ k,M k->¬ E k:=fun k hk e=>by
  obtain ⟨a1,a2,a3,a4,a5,a6⟩:=h.off k hk
  rcases hE k e with e | e | e | e
  .exact a3 e
  .exact a4 e
  .exact a5 e
  .exact a6 e
 have up:∀ R:World->Prop,Rb X R W->Rb (fun k=>X k∨ob A1' l1'.length k1'=some k∨ob A2' l2'.length k2'=some k) R W':=fun R hR=>by
  refine (hR.more fun k hk=>?_).go (hA.mono fun k hk => .inl (h.inX k (.inr (.inr (hE k hk)))))
  rcases hk with e | e | e
  .exact .inl e
  .rcases n1 with q | ⟨j,q,q2⟩
   .exact .inl (h.inX k (.inr (.inr (.inr (.inr (.inl (q ▸ e)))))))
   .rw [e] at q;cases q;exact .inr q2
  .rcases n2 with q | ⟨j,q,q2⟩
   .exact .inl (h.inX k (.inr (.inr (.inr (.inr (.inr (q ▸ e)))))))
   .rw [e] at q;cases q;exact .inr q2
 have up2:∀ R:World->Prop,Rb (fun k=>X k∨k<w.heap.size) R W->Rb (fun k=>(X k∨ob A1' l1'.length k1'=some k∨ob A2' l2'.length k2'=some k)∨k<w.heap.size) R W':=fun R hR=>by
  refine (hR.more fun k hk=>?_).go (hA.mono fun k hk => .inl (.inl (h.inX k (.inr (.inr (hE k hk))))))
  rcases hk with (e | e | e) | e
  .exact .inl (.inl e)
  .rcases n1 with q | ⟨j,q,q2⟩
   .exact .inl (.inl (h.inX k (.inr (.inr (.inr (.inr (.inl (q ▸ e))))))))
   .rw [e] at q;cases q;exact .inr q2
  .rcases n2 with q | ⟨j,q,q2⟩
   .exact .inl (.inl (h.inX k (.inr (.inr (.inr (.inr (.inr (q ▸ e))))))))
   .rw [e] at q;cases q;exact .inr q2
  .exact .inl (.inr e)
 have low:∀ k,E k->w.heap.size+1+1<=k:=fun k e=>by
  have:=h.cbx
  rcases hE k e with q | q | q | q
  .omega
  .omega
  .have:=(aIy h.row1 q).1;omega
  .have:=(aIy h.row2 q).1;omega
 refine ⟨hA.blk h.rbox fun e=>by have:=low _ e;omega,hA.blk h.rres fun e=>by have:=low _ e;omega,tr,cnt,row1,row2,far,?_,h.cbx,?_,?_,up _ h.rd,fun x hx=>up2 _ (h.confs x hx),up2 _ h.ext,?_,h.newM,h.low,fun k hk=>hk.elim (fun e=>Nat.lt_of_lt_of_le (h.xlt k e) hA.size) fun e=>e.elim (fun e=>(aIy row1 e).2) fun e=>(aIy row2 e).2,h.sup⟩
 .intro k hk
  obtain ⟨a1,a2,a3,a4,a5,a6⟩:=h.off k hk;have hk2:=dm k hk;refine ⟨a1,a2,a3,a4,fun e=>?_,fun e=>?_⟩
  .rcases n1 with q | ⟨j,q,q2⟩
   .exact a5 (q ▸ e)
   .rw [e] at q;cases q;omega
  .rcases n2 with q | ⟨j,q,q2⟩
   .exact a6 (q ▸ e)
   .rw [e] at q;cases q;omega
 .rintro k (e | e | e | e | e | e)
  .exact .inl (h.inX k (.inl e))
  .exact .inl (h.inX k (.inr (.inl e)))
  .exact .inl (h.inX k (.inr (.inr (.inl e))))
  .exact .inl (h.inX k (.inr (.inr (.inr (.inl e)))))
  .exact .inr (.inl e)
  .exact .inr (.inr e)
 .exact hS.keep _ _ _ _ h.inv hA.size fun k hk=>hk.elim (fun hk=>hA.block k (dm k hk) (nE k hk)) fun hk=>hA.block k (by have:=h.low;have:=h.agr.size;omega) fun e=>by have:=low k e;have:=h.low;omega
 .exact ⟨hA.os.trans h.agr.os,hA.tape.trans h.agr.tape,hA.output.trans h.agr.output,Nat.le_trans h.agr.size hA.size,fun k hk hn=>(hA.block k (Nat.lt_of_lt_of_le hk h.agr.size) (fun e=>by have:=low k e;omega)).trans (h.agr.block k hk hn)⟩
theorem RunI.count {kc':Cnt} (hS:Seer P N0 f caps cv en ok Inv) (h:RunI N0 w M0 rc cb Rd Ex Inv s0 W M X L l1 l2 A1 k1 A2 k2 kc) :
  ∃ X',RunI N0 w M0 rc cb Rd Ex Inv s0 (((((W.setCell ⟨cb,0,none⟩ (.int .i64 kc'.steps)).setCell ⟨cb,1,none⟩ (.int .i64 kc'.moves)).setCell ⟨cb,2,none⟩ (.int .i64 kc'.rounds)).setCell ⟨cb,3,none⟩ (.int .i64 kc'.begun)).setCell ⟨cb,4,none⟩ (.int .u32 (kc'.pending:Int))) M X' L l1 l2 A1 k1 A2 k2 kc':=by
 have hcb:=h.cbx
 have hA:Agr (fun k=>k=cb) W (((((W.setCell ⟨cb,0,none⟩ (.int .i64 kc'.steps)).setCell ⟨cb,1,none⟩ (.int .i64 kc'.moves)).setCell ⟨cb,2,none⟩ (.int .i64 kc'.rounds)).setCell ⟨cb,3,none⟩ (.int .i64 kc'.begun)).setCell ⟨cb,4,none⟩ (.int .u32 (kc'.pending:Int))) :=
  ((((Agr.setCell (E:=fun k=>k=cb) W ⟨cb,0,none⟩ _ rfl).trans (Agr.setCell _ ⟨cb,1,none⟩ _ rfl)).trans (Agr.setCell _ ⟨cb,2,none⟩ _ rfl)).trans (Agr.setCell _ ⟨cb,3,none⟩ _ rfl)).trans (Agr.setCell _ ⟨cb,4,none⟩ _ rfl)
 have t1:=aV5 h.row1 h.cnt (by decide)
 have t2:=aV5 h.row2 h.cnt (by decide)
 refine ⟨_,h.turn hS hA (fun k e => .inr (.inl e)) (hA.blk h.tr (fun e=>by omega)) ?_ (aBi h.row1 hA fun k hk e=>t1 (e ▸ hk)) (aBi h.row2 hA fun k hk e=>t2 (e ▸ hk)) h.far (.inl rfl) (.inl rfl) rfl⟩
 exact ((((h.cnt.set 0 _).set 1 _).set 2 _).set 3 _).set 4 _
theorem RunI.push1 {S:Nat} {w4:World} {A':Option Addr} {k':Nat} (hS:Seer P N0 f caps cv en ok Inv) (h:RunI N0 w M0 rc cb Rd Ex Inv s0 W M X L l1 l2 A1 k1 A2 k2 kc) {o:Obj}
  (hown:w4.ownsRow (w.heap.size+1+1+1) 46 1 (.slice A' (l1.length+1) k') (l1.length+1) (l1.map aGa++[aGa S])) (hgr:(W.alloc o).grownBy w4 (Value.slice A1 l1.length k1).ownBlock)
  (hat:(Value.slice A' (l1.length+1) k').ownBlock=(Value.slice A1 l1.length k1).ownBlock∨(Value.slice A' (l1.length+1) k').ownBlock=some (W.alloc o).heap.size) :
  ∃ X',RunI N0 w M0 rc cb Rd Ex Inv s0 (w4.setCell ⟨w.heap.size+1+1,0,none⟩ (.slice A' (l1.length+1) k')) M X' L (l1++[S]) l2 A' k' A2 k2 kc:=by
 have hcb:=h.cbx;have hl:(l1++[S]).length=l1.length+1:=by simp
 have hA:Agr (fun k=>k=w.heap.size+1+1∨ob A1 l1.length k1=some k) W (w4.setCell ⟨w.heap.size+1+1,0,none⟩ (.slice A' (l1.length+1) k')) :=
  ((Agr.alloc _ W o).trans (Agr.grownV hgr fun k hk => .inr hk.symm)).trans (Agr.setCell _ _ _ (.inl rfl))
 have nt1:ob A1 l1.length k1≠some (w.heap.size+1+1):=fun e=>by have:=(aIy h.row1 e).1;omega
 have nt2:ob A2 l2.length k2≠some (w.heap.size+1+1):=fun e=>by have:=(aIy h.row2 e).1;omega
 have tr4:Blk w4 (w.heap.size+1+1) (aEn (.slice A1 l1.length k1) (.slice A2 l2.length k2)) 70:=(h.tr.alloc o).grown hgr (fun e=>nt1 e.symm);have t1:=aV5 h.row1 h.cnt (by decide)
 have hsz:(W.alloc o).heap.size=W.heap.size+1:=by simp
 have n1:ob A' (l1++[S]).length k'=ob A1 l1.length k1∨∃ k,ob A' (l1++[S]).length k'=some k/\W.heap.size<=k:=by
  rw [hl]
  rcases hat with e | e
  .exact .inl e
  .exact .inr ⟨_,e,by omega⟩
 have hrow:(w4.setCell ⟨w.heap.size+1+1,0,none⟩ (.slice A' (l1.length+1) k')).ownsRow (w.heap.size+1+1+1) 46 1 (.slice A' (l1++[S]).length k') (l1++[S]).length ((l1++[S]).map aGa):=by
  have:=aAh hown (a:=⟨w.heap.size+1+1,0,none⟩) (by simp) (.slice A' (l1.length+1) k')
  simpa using this
 refine ⟨_,h.turn hS hA (fun k e=>e.elim .inl fun e => .inr (.inr (.inl e))) ?_ (hA.blk h.cnt (fun e=>by
   rcases e with e | e
   .omega
   .exact t1 e)) hrow (aBi h.row2 hA fun k hk e=>by
   rcases e with e | e
   .exact nt2 (e ▸ hk)
   .exact h.far k e hk) (fun k hk hk2=>?_) n1 (.inl rfl) rfl⟩
 .have:=tr4.set 0 (.slice A' (l1.length+1) k')
  rw [hl];exact this
 .rcases n1 with e | ⟨j,e,hj⟩
  .exact h.far k (e ▸ hk) hk2
  .rw [hk] at e;cases e
   have:=(aIy h.row2 hk2).2;omega
theorem RunI.push2 {S:Nat} {w4:World} {A':Option Addr} {k':Nat} (hS:Seer P N0 f caps cv en ok Inv) (h:RunI N0 w M0 rc cb Rd Ex Inv s0 W M X L l1 l2 A1 k1 A2 k2 kc) {o:Obj}
  (hown:w4.ownsRow (w.heap.size+1+1+1) 46 1 (.slice A' (l2.length+1) k') (l2.length+1) (l2.map aGa++[aGa S])) (hgr:(W.alloc o).grownBy w4 (Value.slice A2 l2.length k2).ownBlock)
  (hat:(Value.slice A' (l2.length+1) k').ownBlock=(Value.slice A2 l2.length k2).ownBlock∨(Value.slice A' (l2.length+1) k').ownBlock=some (W.alloc o).heap.size) :
  ∃ X',RunI N0 w M0 rc cb Rd Ex Inv s0 (w4.setCell ⟨w.heap.size+1+1,1,none⟩ (.slice A' (l2.length+1) k')) M X' L l1 (l2++[S]) A1 k1 A' k' kc:=by
 have hcb:=h.cbx;have hl:(l2++[S]).length=l2.length+1:=by simp
 have hA:Agr (fun k=>k=w.heap.size+1+1∨ob A2 l2.length k2=some k) W (w4.setCell ⟨w.heap.size+1+1,1,none⟩ (.slice A' (l2.length+1) k')) :=
  ((Agr.alloc _ W o).trans (Agr.grownV hgr fun k hk => .inr hk.symm)).trans (Agr.setCell _ _ _ (.inl rfl))
 have nt1:ob A1 l1.length k1≠some (w.heap.size+1+1):=fun e=>by have:=(aIy h.row1 e).1;omega
 have nt2:ob A2 l2.length k2≠some (w.heap.size+1+1):=fun e=>by have:=(aIy h.row2 e).1;omega
 have tr4:Blk w4 (w.heap.size+1+1) (aEn (.slice A1 l1.length k1) (.slice A2 l2.length k2)) 70:=(h.tr.alloc o).grown hgr (fun e=>nt2 e.symm);have t2:=aV5 h.row2 h.cnt (by decide)
 have hsz:(W.alloc o).heap.size=W.heap.size+1:=by simp
 have n2:ob A' (l2++[S]).length k'=ob A2 l2.length k2∨∃ k,ob A' (l2++[S]).length k'=some k/\W.heap.size<=k:=by
  rw [hl]
  rcases hat with e | e
  .exact .inl e
  .exact .inr ⟨_,e,by omega⟩
 have hrow:(w4.setCell ⟨w.heap.size+1+1,1,none⟩ (.slice A' (l2.length+1) k')).ownsRow (w.heap.size+1+1+1) 46 1 (.slice A' (l2++[S]).length k') (l2++[S]).length ((l2++[S]).map aGa):=by
  have:=aAh hown (a:=⟨w.heap.size+1+1,1,none⟩) (by simp) (.slice A' (l2.length+1) k')
  simpa using this
 refine ⟨_,h.turn hS hA (fun k e=>e.elim .inl fun e => .inr (.inr (.inr e))) ?_ (hA.blk h.cnt (fun e=>by
   rcases e with e | e
   .omega
   .exact t2 e)) (aBi h.row1 hA fun k hk e=>by
   rcases e with e | e
   .exact nt1 (e ▸ hk)
   .exact h.far k hk e) hrow (fun k hk hk2=>?_) (.inl rfl) n2 rfl⟩
 .have:=tr4.set 1 (.slice A' (l2.length+1) k')
  rw [hl];exact this
 .rcases n2 with e | ⟨j,e,hj⟩
  .exact h.far k hk (e ▸ hk2)
  .rw [hk2] at e;cases e
   have:=(aIy h.row1 hk).2;omega
theorem RunI.mid1 {w4:World} (h:RunI N0 w M0 rc cb Rd Ex Inv s0 W M X L l1 l2 A1 k1 A2 k2 kc) {o:Obj} (hgr:(W.alloc o).grownBy w4 (Value.slice A1 l1.length k1).ownBlock):Blk w4 (w.heap.size+1+1) (aEn (.slice A1 l1.length k1) (.slice A2 l2.length k2)) 70 :=
 (h.tr.alloc o).grown hgr fun e=>by have:=(aIy h.row1 e.symm).1;omega
theorem RunI.mid2 {w4:World} (h:RunI N0 w M0 rc cb Rd Ex Inv s0 W M X L l1 l2 A1 k1 A2 k2 kc) {o:Obj} (hgr:(W.alloc o).grownBy w4 (Value.slice A2 l2.length k2).ownBlock):Blk w4 (w.heap.size+1+1) (aEn (.slice A1 l1.length k1) (.slice A2 l2.length k2)) 70 :=
 (h.tr.alloc o).grown hgr fun e=>by have:=(aIy h.row2 e.symm).1;omega
theorem Rb.grow {M0:Nat->Prop} {t b:Nat} {R:World->Prop} {w:World} (h:Rb (fun k=>(M0 k∨k=t)∨k<b) R w):Rb (fun k=>(M0 k∨k=t∨k=w.heap.size)∨k<b) R w :=
 h.more fun k hk=>by
  rcases hk with (e | e | e) | e
  .exact .inl (.inl (.inl e))
  .exact .inl (.inl (.inr e))
  .right;omega
  .exact .inl (.inr e)
theorem RunI.start (hS:Seer P N0 f caps cv en ok Inv) (hI:Inv M0 s0 w) (hN:N0<=w.heap.size) (hR:Rb M0 Rd w) (x0:Blk W w.heap.size rc 114) (x1:Blk W (w.heap.size+1) (aEn (.slice none 0 0) (.slice none 0 0)) 70)
  (x2:Blk W (w.heap.size+1+1) (aEn (.slice none 0 0) (.slice none 0 0)) 70) (hb:Bel w W) (kc:Cnt) :
  RunI N0 w M0 rc W.heap.size Rd (fun _=>True) Inv s0 (W.alloc (.cells (aI7 kc) 68)) M0 (fun k=>(M0 k∨k=w.heap.size+1)∨k=w.heap.size+1+1∨k=W.heap.size) [] [] [] none 0 none 0 kc:=by
 have hz:=x2.lt;have hb2:Bel w (W.alloc (.cells (aI7 kc) 68)):=hb.alloc _;have dm:=hS.dom _ _ _ hI;refine ⟨x0.alloc _,x1.alloc _,x2.alloc _,Blk.new _ _ _,World.ownsRow_nil _ _ _ _,World.ownsRow_nil _ _ _ _,(fun k hk=>by cases hk),fun k hk=>?_,(by omega),fun k hk=>?_,?_,?_,(fun x hx=>by cases hx),(fun _ _=>trivial),Agr.of_belM hb2,fun k hk => .inl hk,hN,fun k hk=>?_,fun k hk=>hk⟩
 .have:=dm k hk
  exact ⟨(by omega),(by omega),(by omega),(by omega),(fun e=>by cases e),(fun e=>by cases e)⟩
 .rcases hk with e | e | e | e | e | e
  .exact .inl (.inl e)
  .exact .inl (.inr e)
  .exact .inr (.inl e)
  .exact .inr (.inr e)
  .cases e
  .cases e
 .rw [List.append_nil]
  exact hS.keep _ _ _ _ hI hb2.size fun k hk=>hb2.block k (hk.elim (dm k) fun h=>by omega)
 .refine (hR.more fun k hk=>?_).bel hb2
  rcases hk with (e | e) | e | e
  .exact .inl e
  .right;omega
  .right;omega
  .right;omega
 .have:=dm k
  rw [World.size_alloc]
  rcases hk with (e | e) | e | e
  .have:=dm k e;omega
  .omega
  .omega
  .omega
theorem RunI.newR {R:World->Prop} {N:Nat} (_:RunI N0 w M0 rc cb Rd Ex Inv s0 W M X L l1 l2 A1 k1 A2 k2 kc) (hN:∀ k,X k->k<N) (hw:w.heap.size<=N) (hR:∀ V,aC3 N W V->R V):Rb (fun k=>X k∨k<w.heap.size) R W :=
 Rb.new hR fun k hk=>hk.elim (hN k) fun h=>Nat.lt_of_lt_of_le h hw
theorem RunI.more {R:World->Prop} (h:RunI N0 w M0 rc cb Rd Ex Inv s0 W M X L l1 l2 A1 k1 A2 k2 kc) (hR:Rb (fun k=>X k∨k<w.heap.size) R W):RunI N0 w M0 rc cb Rd R Inv s0 W M X L l1 l2 A1 k1 A2 k2 kc :=
 { h with ext:=hR }
theorem RunI.less (h:RunI N0 w M0 rc cb Rd Ex Inv s0 W M X L l1 l2 A1 k1 A2 k2 kc):RunI N0 w M0 rc cb Rd (fun _=>True) Inv s0 W M X L l1 l2 A1 k1 A2 k2 kc :=
 { h with ext:=fun _ _=>trivial }
theorem RunI.finish (hS:Seer P N0 f caps cv en ok Inv) (h:RunI N0 w M0 rc cb Rd Ex Inv s0 W M X L l1 l2 A1 k1 A2 k2 kc) (hA:Agr (fun k=>k=w.heap.size+1∨k=w.heap.size+1+1) W W') :
  Inv M (s0++L) W'/\(∀ x∈L,Rb (fun k=>M k∨k<w.heap.size) (fun W=>aD2 W x.1 x.2.last) W')/\Rb (fun k=>M k∨k<w.heap.size) (fun W=>aBw W A1 l1.length l1) W'/\Rb (fun k=>M k∨k<w.heap.size) (fun W=>aBw W A2 l2.length l2) W'/\Agr M0 w W'/\l1.length<=k1/\k1<=maxLen/\l2.length<=k2/\k2<=maxLen:=by
 have hAX:Agr X W W':=hA.mono fun k hk=>h.inX k (hk.elim (fun e => .inr (.inl e)) fun e => .inr (.inr (.inl e)));have dm:=hS.dom _ _ _ h.inv;obtain ⟨c1,c2⟩:=aCd h.row1;obtain ⟨c3,c4⟩:=aCd h.row2
 refine ⟨hS.keep _ _ _ _ h.inv hA.size fun k hk=>hk.elim (fun hk=>hA.block k (dm k hk) fun e=>?_) (fun hk=>hA.block k (by have:=h.low;have:=h.agr.size;omega) fun e=>by have:=h.low;omega),fun x hx=>((h.confs x hx).go (hAX.mono fun k hk => .inl hk)).sub fun k hk=>hk.elim (fun hk => .inl (h.inX k (.inl hk))) .inr,
  fun V hV=>aRe (aBi (aBi h.row1 hA fun k hk e=>?_) hV fun k hk e=>e.elim (fun e=>(h.off k e).2.2.2.2.1 hk) fun e=>by have:=(aIy h.row1 hk).1;omega),fun V hV=>aRe (aBi (aBi h.row2 hA fun k hk e=>?_) hV fun k hk e=>e.elim (fun e=>(h.off k e).2.2.2.2.2 hk) fun e=>by have:=(aIy h.row2 hk).1;omega),?_,c1,c2,c3,c4⟩
 .obtain ⟨a1,a2,a3,_⟩:=h.off k hk
  exact e.elim a2 a3
 .have:=(aIy h.row1 hk).1;omega
 .have:=(aIy h.row2 hk).1;omega
 .exact ⟨hA.os.trans h.agr.os,hA.tape.trans h.agr.tape,hA.output.trans h.agr.output,Nat.le_trans h.agr.size hA.size,fun k hk hn=>(hA.block k (Nat.lt_of_lt_of_le hk h.agr.size) (fun e=>by omega)).trans (h.agr.block k hk hn)⟩
end
end Go.Proofs.YtmoebklkkjbigaaGreatDoor

