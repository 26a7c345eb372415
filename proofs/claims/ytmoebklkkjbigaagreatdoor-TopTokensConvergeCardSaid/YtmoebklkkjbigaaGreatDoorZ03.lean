/- Merged. -/
import Derived.Test.YtmoebklkkjbigaaGreatDoorRows
import Derived.WalkKit
import Derived.WalkSpells
import Derived.WalkLawsBesides
import Derived.Lib.Hide
import Derived.Handy
import Derived.Deep.QuietTactic
import Derived.BigQuiet
import Derived.Deep.LoopGhost
import Derived.Deep.AppendLies
import Derived.Deep.Draws
import Derived.Deep.RegionLaw
import Derived.Deep.RegionWith
import Derived.Deep.DeepCutAuto
import Derived.Maps.AppendAt
import Derived.StillTailTactics
import Derived.IntWalk
import Derived.Deep.DeepMust
set_option linter.unusedSimpArgs false
set_option linter.unnecessarySimpa false
set_option linter.unusedVariables false
set_option maxRecDepth 100000

namespace Go.Proofs.YtmoebklkkjbigaaGreatDoor
open Go.RowKit
theorem aA0 {p:Prop} (h:p):Hid p:=h
theorem aA9 {k:IntKind} {a b:Int} (h:a=b):Ending.returned (.int k a) = .returned (.int k b):=by rw [h]
theorem aA1 {a b:Bool} (h:a=b):Ending.returned (.bool a) = .returned (.bool b):=by rw [h]
def Bel (w w':World):Prop:=Below w.heap.size w w'
theorem Bel.refl (w:World):Bel w w:=Below.refl _ _
theorem Bel.trans {a b c:World} (h:Bel a b) (k:Bel b c):Bel a c:=Below.trans h (Below.mono k (Below.size h))
theorem Bel.size {w w':World} (h:Bel w w'):w.heap.size<=w'.heap.size:=Below.size h
theorem Bel.cell {w w':World} (h:Bel w w') {b o:Nat} (hb:b<w.heap.size):w'.cell? ⟨b,o,none⟩=w.cell? ⟨b,o,none⟩:=Below.cell h (p:=⟨b,o,none⟩) hb
theorem Bel.drew {w w':World} (h:Bel w w'):Bel w w'.drew:=Below.drew h
theorem Bel.drewN {w w':World} (h:Bel w w') (n:Nat):Bel w (w'.drewN n):=by
 have h':Below w.heap.size w w':=h;exact ⟨h'.os,h'.tape,h'.output,h'.size,h'.block⟩
theorem Bel.alloc {w w':World} (h:Bel w w') (o:Obj):Bel w (w'.alloc o):=Below.alloc h (Below.size h) o
theorem Bel.setCell {w w':World} (h:Bel w w') {p:Addr} (hp:w.heap.size<=p.block) (u:Value):Bel w (w'.setCell p u):=Below.setCell h hp u
theorem Bel.grown {w w' w2:World} {row:Option Nat} (h:Bel w w') (hg:w'.grownBy w2 row) (hr:∀ k,row=some k->w.heap.size<=k):Bel w w2:=Below.grown h hg (Below.size h) hr
theorem Bel.to {w w':World} (h:Bel w w'):Below w.heap.size w w':=h
theorem Bel.keeps {B:Nat} {a w w':World} (k:Below B a w) (hB:B<=w.heap.size) (h:Bel w w'):Below B a w':=Below.trans k (Below.mono h hB)
theorem Bel.grownBy {w w':World} (h:Bel w w') (row:Option Nat):w.grownBy w' row:=⟨h.os,h.tape,h.output,Below.size h,fun i hi _=>h.block i hi⟩
theorem Bel.owns {w w':World} (h:Bel w w') {base:Nat} {e:TypeId} {size:Nat} {v:Value} {n:Nat} {xs:List Value} (k:w.ownsRow base e size v n xs):w'.ownsRow base e size v n xs :=
 k.kept (h.grownBy none) (by
  rcases k.2 with ⟨rfl,_⟩ | ⟨g,cap,cur,rfl,_⟩
  .exact .inl rfl
  .right;simp [Value.ownBlock])
def aAc {α:Type} (size:Nat) (E:World->Nat->Nat->α->Prop) (w:World) (A:Option Addr) (n:Nat) (xs:List α):Prop :=
 xs.length=n/\∀ i x,xs[i]?=some x->∃ b o,A=some ⟨b,o,none⟩/\b<w.heap.size/\E w b (o+i*size) x
def aNg {α:Type} (E:World->Nat->Nat->α->Prop):Prop:=∀ w w' b o x,Bel w w'->b<w.heap.size->E w b o x->E w' b o x
theorem aAc.keep {α:Type} {size:Nat} {E:World->Nat->Nat->α->Prop} {w w':World} {A:Option Addr} {n:Nat} {xs:List α} (hE:aNg E) (h:aAc size E w A n xs) (k:Bel w w'):aAc size E w' A n xs :=
 ⟨h.1,fun i x hx=>by
  obtain ⟨b,o,e,hb,he⟩:=h.2 i x hx;exact ⟨b,o,e,Nat.lt_of_lt_of_le hb k.size,hE _ _ _ _ _ k hb he⟩⟩
theorem aAc.nil {α:Type} {size:Nat} {E:World->Nat->Nat->α->Prop} {w:World} {A:Option Addr}:aAc size E w A 0 ([]:List α):=⟨rfl,fun i x h=>by simp at h⟩
theorem aAc.at_ {α:Type} {size:Nat} {E:World->Nat->Nat->α->Prop} {w:World} {A:Option Addr} {n:Nat} {xs:List α} (h:aAc size E w A n xs) (k:Nat) (hk:k<xs.length) :
  ∃ b o,A=some ⟨b,o,none⟩/\b<w.heap.size/\E w b (o+k*size) xs[k]:=h.2 k _ (List.getElem?_eq_getElem hk)
def aJ4 (w:World) (b o:Nat) (x:Int):Prop:=w.cell? ⟨b,o,none⟩=some (.int .i64 x)
theorem aJ4.keeps:aNg aJ4:=fun _ _ _ _ _ k hb h=>(k.cell hb).trans h
def aCr:=aAc 1 aJ4
theorem aCr.keep {w w':World} {A:Option Addr} {n:Nat} {xs:List Int} (h:aCr w A n xs) (k:Bel w w'):aCr w' A n xs:=aAc.keep aJ4.keeps h k
theorem aCr.at_ {w:World} {A:Option Addr} {n:Nat} {xs:List Int} (h:aCr w A n xs) (k:Nat) (hk:k<xs.length) :
  ∃ b o,A=some ⟨b,o,none⟩/\b<w.heap.size/\w.cell? ⟨b,o+k,none⟩=some (.int .i64 xs[k]):=by
 obtain ⟨b,o,e,hb,h⟩:=aAc.at_ h k hk;exact ⟨b,o,e,hb,by rw [Nat.mul_one] at h;exact h⟩
theorem aAj {w:World} {base:Nat} {e:TypeId} {size:Nat} {A:Option Addr} {n c:Nat} {xs:List Value} (h:w.ownsRow base e size (.slice A n c) n xs) {j:Nat} {u:Value} (hj:xs[j]?=some u) :
  ∃ g,A=some ⟨g,0,none⟩/\base<=g/\g<w.heap.size/\w.cell? ⟨g,j,none⟩=some u/\w.frozen? ⟨g,j,none⟩=false:=by
 have hl:j<n*size:=by
  have h1:=h.1;have:=(List.getElem?_eq_some_iff.1 hj).1;omega
 have hn:0<n:=by
  rcases Nat.eq_zero_or_pos n with h0 | h0
  .subst h0;simp at hl
  .exact h0
 obtain ⟨g,cap,hv,hb,hg⟩:=h.form hn;injection hv with hA _ hc
 subst hA;subst hc;exact ⟨g,rfl,hb,hg,(h.cellAt j hl).trans hj,h.frozenAt j⟩
theorem aVa {w:World} {base:Nat} {e:TypeId} {A:Option Addr} {n c:Nat} {l:List Int} (h:w.ownsRow base e 1 (.slice A n c) n (l.map (Value.int .i64))):aCr w A n l:=by
 refine ⟨by have:=h.1;simpa using this,fun i x hx=>?_⟩
 obtain ⟨g,e1,_,e3,e4,_⟩:=aAj h (j:=i) (u := .int .i64 x) (by simp [hx])
 exact ⟨g,0,e1,e3,by simpa [aJ4] using e4⟩
theorem bJj {P:Program} {t e:TypeId} {i:TypeInfo} {size:Nat} (ht:P.underlying t=some (.slice e)) (hi:P.info? e=some i) (hsz:i.size=size) (A:Option Addr) (len cap l:Nat) (hl:l<=len) (hc:len<=cap) :
  ∃ A2,(∀ (k:IntKind) (w:World),(Instr.slice t (.slice A len cap) (some (.int k (l:Int))) none none).run P w = .ok (.slice A2 (len-l) (cap-l)) w) /\
   ∀ {α:Type} (E:World->Nat->Nat->α->Prop) (w:World) (xs:List α),aAc size E w A len xs->aAc size E w A2 (len-l) (xs.drop l):=by
 refine ⟨if cap=l then A else A.map (·.add (l*size)),fun k w=>?_,fun E w xs h=>?_⟩
 .simp [Instr.slice,run_underlying ht,Instr.sliceBounds,Instr.sliceBound,asIntOf,hl,sizeOf,typeInfo,hi,hsz]
 .refine ⟨by rw [List.length_drop,h.1],fun j x hx=>?_⟩
  rw [List.getElem?_drop] at hx;obtain ⟨b,o,rfl,hb,he⟩:=h.2 _ _ hx;have hlt:l+j<xs.length:=(List.getElem?_eq_some_iff.1 hx).1;have hne:cap≠l:=by have:=h.1;omega
  refine ⟨b,o+l*size,?_,hb,?_⟩
  .rw [if_neg hne]
   simp only [Option.map_some,Addr.add]
   split
   .rename_i h0;simp [h0]
   .rfl
  .rw [Nat.add_mul,<- Nat.add_assoc] at he
   exact he
theorem bMk {P:Program} {t e:TypeId} {i:TypeInfo} (ht:P.underlying t=some (.slice e)) (hi:P.info? e=some i) (A:Option Addr) (len cap h:Nat) (hc:h<=cap) (k:IntKind) (w:World) :
  (Instr.slice t (.slice A len cap) none (some (.int k (h:Int))) none).run P w = .ok (.slice A h cap) w:=by
 have hA:∀ s,(if cap=0 then A else A.map (·.add (0*s)))=A:=by
  intro s
  cases A <;> simp [Addr.add]
 simp [Instr.slice,run_underlying ht,Instr.sliceBounds,Instr.sliceBound,asIntOf,hc,sizeOf,typeInfo,hi]
 intro _
 cases A <;> simp [Addr.add]
theorem bD5 {w:World} {base:Nat} {e:TypeId} {size:Nat} {A:Option Addr} {n c:Nat} {xs:List Value} (h:w.ownsRow base e size (.slice A n c) n xs) (m:Nat) (hm:m<=n):w.ownsRow base e size (.slice A m c) m (xs.take (m*size)):=by
 obtain ⟨h1,h2⟩:=h;refine ⟨by rw [List.length_take,h1];exact Nat.min_eq_left (Nat.mul_le_mul_right _ hm),?_⟩
 rcases h2 with ⟨hv,h0⟩ | ⟨g,cap,cur,hv,hb,hg,hnc,hcm,hcs,ht⟩
 .left
  injection hv with hA hn hc
  subst hA;subst hc;have:m=0:=by omega
  subst this;exact ⟨rfl,rfl⟩
 .right
  injection hv with hA _ hc
  subst hA;subst hc;refine ⟨g,c,cur,rfl,hb,hg,by omega,hcm,hcs,?_⟩
  rw [<- ht,List.take_take,Nat.min_eq_left (Nat.mul_le_mul_right _ hm)]
theorem aCd {w:World} {base:Nat} {e:TypeId} {size:Nat} {A:Option Addr} {n c:Nat} {xs:List Value} (h:w.ownsRow base e size (.slice A n c) n xs):n<=c/\c<=maxLen:=by
 rcases h.2 with ⟨hv,h0⟩ | ⟨g,cap,cur,hv,hb,hg,hnc,hcm,hcs,ht⟩
 .injection hv with _ _ hc
  subst hc;subst h0;exact ⟨Nat.le_refl _,by unfold maxLen;omega⟩
 .injection hv with _ _ hc
  subst hc;exact ⟨hnc,hcm⟩
theorem aRf {w:World} {base:Nat} {e:TypeId} {size:Nat} {v:Value} {n:Nat} {xs:List Value} (h:w.ownsRow base e size v n xs):∃ A c,v = .slice A n c:=by
 rcases h.2 with ⟨hv,h0⟩ | ⟨g,cap,cur,hv,_⟩
 .subst h0;exact ⟨_,_,hv⟩
 .exact ⟨_,_,hv⟩
theorem Bel.push {w wr w':World} {e:TypeId} {size:Nat} {v:Value} {n:Nat} {xs:List Value} (h:Bel w wr) (ho:wr.ownsRow w.heap.size e size v n xs) (hg:wr.grownBy w' v.ownBlock):Bel w w' :=
 h.grown hg (fun k hk=>(ho.lt k hk).1)
section
variable {P:Program} (w:World)
theorem bKc {o:Oper} {a:Act} {K:Act->World->Prop} {Q:Exit->Act->World->Prop} (s x:Operand) (t:TypeId)
  (ho:o.op = .call { callee := .builtin .append,args:=#[s,x],argTypes:=#[t,t] })
  (base:Nat) (e:TypeId) (i:TypeInfo) (z:Value) (size bytes:Nat) (ht:P.underlying t=some (.slice e)) (hi:P.info? e=some i) (hz:i.zero=some z)
  (hsize:i.size=size) (hby:i.bytes=bytes) (hzs:z.cells.size=size) (hsz:0<size)
  (A:Option Addr) (n c:Nat) (xs:List Value) (hs:a.eval s = .slice A n c) (hown:w.ownsRow base e size (.slice A n c) n xs)
  (B:Nat) (cs:Array Value) (e':TypeId) (fr:Nat × Nat) (hx:a.eval x = .slice (some ⟨B,0,none⟩) 1 1) (hb:w.heap[B]?=some (.cells cs e' fr)) (hcs:cs.size=size) (h1:∀ u∈cs.toList,u.oneCell'=true)
  (h63:n+1<=maxLen) (hbytes:(n+1)*bytes<=140737488355328) (hbase:base<=w.heap.size)
  (h:∀ A' c' w',w'.ownsRow base e size (.slice A' (n+1) c') (n+1) (xs++cs.toList)->w.grownBy w' (Value.slice A n c).ownBlock->((Value.slice A' (n+1) c').ownBlock=(Value.slice A n c).ownBlock∨(Value.slice A' (n+1) c').ownBlock=some w.heap.size)->K (a.put o.dst (.slice A' (n+1) c')) w'):o.wp P a w K Q:=by
 obtain ⟨v',w',hr,h2,h3,_,h5⟩:=run_append_own_at (P:=P) w base t o.type e i z size bytes ht hi hz hsize hby hzs hsz (.slice A n c) n xs hown ⟨B,0,none⟩ 1 1 cs.toList (by simpa using hcs) (World.news_of_block hb) h1 h63 hbytes hbase
 obtain ⟨A',c',rfl⟩:=aRf h2;unfold Oper.wp execOp;simp only [ho,resolve,invoke,builtin,Sem.run_bind,Sem.run_pure,Result.andThen_ok,List.map_toArray,List.map_cons,List.map_nil,hs,hx,hr]
 exact h A' c' w' h2 h3 h5
theorem aBr {ops:Array Oper} {rest:List Oper} {o:Oper} {a:Act} {Q:Exit->Act->World->Prop} (hgd:o.guard=none) (s x:Operand) (t:TypeId)
  (ho:o.op = .call { callee := .builtin .append,args:=#[s,x],argTypes:=#[t,t] })
  (base:Nat) (e:TypeId) (i:TypeInfo) (z:Value) (size bytes:Nat) (ht:P.underlying t=some (.slice e)) (hi:P.info? e=some i) (hz:i.zero=some z)
  (hsize:i.size=size) (hby:i.bytes=bytes) (hzs:z.cells.size=size) (hsz:0<size)
  (A:Option Addr) (n c:Nat) (xs:List Value) (hs:a.eval s = .slice A n c) (hown:w.ownsRow base e size (.slice A n c) n xs)
  (B:Nat) (cs:Array Value) (e':TypeId) (fr:Nat × Nat) (hx:a.eval x = .slice (some ⟨B,0,none⟩) 1 1) (hb:w.heap[B]?=some (.cells cs e' fr)) (hcs:cs.size=size) (h1:∀ u∈cs.toList,u.oneCell'=true)
  (h63:n+1<=maxLen) (hbytes:(n+1)*bytes<=140737488355328) (hbase:base<=w.heap.size)
  (h:∀ A' c' w',w'.ownsRow base e size (.slice A' (n+1) c') (n+1) (xs++cs.toList)->w.grownBy w' (Value.slice A n c).ownBlock->((Value.slice A' (n+1) c').ownBlock=(Value.slice A n c).ownBlock∨(Value.slice A' (n+1) c').ownBlock=some w.heap.size)->wpList P ops Q rest (a.put o.dst (.slice A' (n+1) c')) w'):wpList P ops Q (o :: rest) a w :=
 wpList_plain hgd fun _ hK=>bKc w s x t ho base e i z size bytes ht hi hz hsize hby hzs hsz A n c xs hs hown B cs e' fr hx hb hcs h1 h63 hbytes hbase fun A' c' w' h2 h3 h4=>hK _ _ (h A' c' w' h2 h3 h4)
theorem aCn {ops:Array Oper} {o:Oper} {a:Act} {K:Act->World->Prop} {Q:Exit->Act->World->Prop} {E:Prop} (hgd:o.guard=none) (s x:Operand) (t:TypeId)
  (ho:o.op = .call { callee := .builtin .append,args:=#[s,x],argTypes:=#[t,t] })
  (base:Nat) (e:TypeId) (i:TypeInfo) (z:Value) (size bytes:Nat) (ht:P.underlying t=some (.slice e)) (hi:P.info? e=some i) (hz:i.zero=some z)
  (hsize:i.size=size) (hby:i.bytes=bytes) (hzs:z.cells.size=size) (hsz:0<size)
  (A:Option Addr) (n c:Nat) (xs:List Value) (hs:a.eval s = .slice A n c) (hown:w.ownsRow base e size (.slice A n c) n xs)
  (B:Nat) (cs:Array Value) (e':TypeId) (fr:Nat × Nat) (hx:a.eval x = .slice (some ⟨B,0,none⟩) 1 1) (hb:w.heap[B]?=some (.cells cs e' fr)) (hcs:cs.size=size) (h1:∀ u∈cs.toList,u.oneCell'=true)
  (h63:n+1<=maxLen) (hbytes:(n+1)*bytes<=140737488355328) (hbase:base<=w.heap.size)
  (h:∀ A' c' w',w'.ownsRow base e size (.slice A' (n+1) c') (n+1) (xs++cs.toList)->w.grownBy w' (Value.slice A n c).ownBlock->((Value.slice A' (n+1) c').ownBlock=(Value.slice A n c).ownBlock∨(Value.slice A' (n+1) c').ownBlock=some w.heap.size)->K (a.put o.dst (.slice A' (n+1) c')) w') :
  if Region.wanted o (yielded ops a.tmps)=true then Oper.wp P o a w K Q else E:=by
 have hw:Region.wanted o (yielded ops a.tmps)=true:=by simp [Region.wanted,hgd]
 rw [if_pos hw];exact bKc w s x t ho base e i z size bytes ht hi hz hsize hby hzs hsz A n c xs hs hown B cs e' fr hx hb hcs h1 h63 hbytes hbase h
end
theorem aAx (w:World) (o:Obj):(w.alloc o).heap[w.heap.size]?=some o:=heap_alloc_new w o
theorem aMf (w:World) (o:Obj):(w.alloc o).drew.heap[w.heap.size]?=some o:=heap_alloc_new w o
theorem aO9 (k:IntKind) (x:Int):∀ u∈(#[Value.int k x]:Array Value).toList,u.oneCell'=true:=by simp [Value.oneCell']
theorem bDq (k j:IntKind) (x y:Int):∀ u∈(#[Value.int k x,Value.int j y]:Array Value).toList,u.oneCell'=true:=by simp [Value.oneCell']
theorem aV7 (x:Bool):∀ u∈(#[Value.bool x]:Array Value).toList,u.oneCell'=true:=by simp [Value.oneCell']
def aW6 (w:World) (b o:Nat) (x:Bool):Prop:=w.cell? ⟨b,o,none⟩=some (.bool x)
theorem aW6.keeps:aNg aW6:=fun _ _ _ _ _ k hb h=>(k.cell hb).trans h
def aEw:=aAc 1 aW6
theorem aEw.keep {w w':World} {A:Option Addr} {n:Nat} {xs:List Bool} (h:aEw w A n xs) (k:Bel w w'):aEw w' A n xs:=aAc.keep aW6.keeps h k
theorem aEw.at_ {w:World} {A:Option Addr} {n:Nat} {xs:List Bool} (h:aEw w A n xs) (k:Nat) (hk:k<xs.length) :
  ∃ b o,A=some ⟨b,o,none⟩/\b<w.heap.size/\w.cell? ⟨b,o+k,none⟩=some (.bool xs[k]):=by
 obtain ⟨b,o,e,hb,h⟩:=aAc.at_ h k hk;exact ⟨b,o,e,hb,by rw [Nat.mul_one] at h;exact h⟩
theorem aGr {w:World} {base:Nat} {e:TypeId} {A:Option Addr} {n c:Nat} {l:List Bool} (h:w.ownsRow base e 1 (.slice A n c) n (l.map Value.bool)):aEw w A n l:=by
 refine ⟨by have:=h.1;simpa using this,fun i x hx=>?_⟩
 obtain ⟨g,e1,_,e3,e4,_⟩:=aAj h (j:=i) (u := .bool x) (by simp [hx])
 exact ⟨g,0,e1,e3,by simpa [aW6] using e4⟩
theorem Calls.rel {P:Program} {f:FuncId} {args:Array Value} {w0 w:World} {Q:Ending->Prop} (h0:Bel w0 w) (h:Calls P f args w fun e w'=>Q e/\Bel w w'):Calls P f args w fun e w'=>Q e/\Bel w0 w' :=
 h.mono fun _ _ ⟨a,b⟩=>⟨a,h0.trans b⟩
def aW7 (w:World) (size:Nat) (A:Option Addr) (m:Nat) (news:List Value):Prop :=
 news.length=m*size/\∀ j u,news[j]?=some u->∃ b o,A=some ⟨b,o,none⟩/\w.cell? ⟨b,o+j,none⟩=some u
theorem bKm {b o k:Nat}:(⟨b,o,none⟩:Addr).add k=⟨b,o+k,none⟩:=by
 unfold Addr.add;split
 .rename_i h;subst h;rfl
 .rfl
section
variable {P:Program} (w:World)
theorem aSh (base:Nat) (t ty e:TypeId) (i:TypeInfo) (size:Nat) (ht:P.underlying t=some (.slice e)) (hi:P.info? e=some i)
  (v:Value) (n:Nat) (xs:List Value) (hown:w.ownsRow base e size v n xs) (A:Option Addr) (c:Nat):(Builtin.append_ #[t,t] ty #[v,.slice A 0 c]).run P w = .ok v w:=by
 rcases hown.2 with ⟨rfl,rfl⟩ | ⟨g,cap,cur,rfl,_,_,hnc,_⟩
 .cases A <;> simp [Builtin.append_,run_underlying ht,sizeOf,typeInfo,hi,Builtin.lenOf,Builtin.firstCells,loadCells,loadCellsFrom]
 .cases A <;> simp [Builtin.append_,run_underlying ht,sizeOf,typeInfo,hi,Builtin.lenOf,Builtin.firstCells,hnc,storeCells,loadCells,loadCellsFrom]
theorem bFy (base:Nat) (t ty e:TypeId) (i:TypeInfo) (z:Value) (size bytes:Nat) (ht:P.underlying t=some (.slice e)) (hi:P.info? e=some i) (hz:i.zero=some z)
  (hsize:i.size=size) (hby:i.bytes=bytes) (hzs:z.cells.size=size) (hsz:0<size)
  (A:Option Addr) (n c:Nat) (xs:List Value) (hown:w.ownsRow base e size (.slice A n c) n xs)
  (A2:Option Addr) (m c2:Nat) (news:List Value) (hr:aW7 w size A2 m news) (h1:∀ u∈news,u.oneCell'=true)
  (h63:n+m<=maxLen) (hbytes:(n+m)*bytes<=140737488355328) (hbase:base<=w.heap.size) :
  ∃ A' c' w',(Builtin.append_ #[t,t] ty #[.slice A n c,.slice A2 m c2]).run P w = .ok (.slice A' (n+m) c') w'/\w'.ownsRow base e size (.slice A' (n+m) c') (n+m) (xs++news)/\w.grownBy w' (Value.slice A n c).ownBlock /\
   ((Value.slice A' (n+m) c').ownBlock=(Value.slice A n c).ownBlock∨(Value.slice A' (n+m) c').ownBlock=some w.heap.size):=by
 rcases Nat.eq_zero_or_pos m with h0 | h0
 .subst h0
  have hn:news=[]:=List.eq_nil_of_length_eq_zero (by simpa using hr.1)
  subst hn;exact ⟨A,c,w,aSh w base t ty e i size ht hi _ n xs hown A2 c2,by simpa using hown,World.grownBy.refl w _,.inl rfl⟩
 .have hpos:0<news.length:=by rw [hr.1];exact Nat.mul_pos h0 hsz
  obtain ⟨b,o,rfl,_⟩:=hr.2 0 news[0] (List.getElem?_eq_getElem hpos)
  have hcells:∀ j u,news[j]?=some u->w.cell? ((⟨b,o,none⟩:Addr).add j)=some u:=by
   intro j u hu
   obtain ⟨b',o',he,hc⟩:=hr.2 j u hu;injection he with he
   injection he with h1 h2
   subst h1;subst h2;rw [bKm];exact hc
  obtain ⟨v',w',hrun,h2,h3,_,h5⟩:=run_append_own_at (P:=P) w base t ty e i z size bytes ht hi hz hsize hby hzs hsz (.slice A n c) n xs hown ⟨b,o,none⟩ m c2 news hr.1 hcells h1 h63 hbytes hbase;obtain ⟨A',c',rfl⟩:=aRf h2;exact ⟨A',c',w',hrun,h2,h3,h5⟩
theorem bKa {o:Oper} {a:Act} {K:Act->World->Prop} {Q:Exit->Act->World->Prop} (s x:Operand) (t:TypeId)
  (ho:o.op = .call { callee := .builtin .append,args:=#[s,x],argTypes:=#[t,t] })
  (base:Nat) (e:TypeId) (i:TypeInfo) (z:Value) (size bytes:Nat) (ht:P.underlying t=some (.slice e)) (hi:P.info? e=some i) (hz:i.zero=some z)
  (hsize:i.size=size) (hby:i.bytes=bytes) (hzs:z.cells.size=size) (hsz:0<size)
  (A:Option Addr) (n c:Nat) (xs:List Value) (hs:a.eval s = .slice A n c) (hown:w.ownsRow base e size (.slice A n c) n xs)
  (A2:Option Addr) (m c2:Nat) (news:List Value) (hx:a.eval x = .slice A2 m c2) (hr:aW7 w size A2 m news) (h1:∀ u∈news,u.oneCell'=true)
  (h63:n+m<=maxLen) (hbytes:(n+m)*bytes<=140737488355328) (hbase:base<=w.heap.size)
  (h:∀ A' c' w',w'.ownsRow base e size (.slice A' (n+m) c') (n+m) (xs++news)->w.grownBy w' (Value.slice A n c).ownBlock->((Value.slice A' (n+m) c').ownBlock=(Value.slice A n c).ownBlock∨(Value.slice A' (n+m) c').ownBlock=some w.heap.size)->K (a.put o.dst (.slice A' (n+m) c')) w'):o.wp P a w K Q:=by
 obtain ⟨A',c',w',hrun,h2,h3,h4⟩:=bFy (P:=P) w base t o.type e i z size bytes ht hi hz hsize hby hzs hsz A n c xs hown A2 m c2 news hr h1 h63 hbytes hbase;unfold Oper.wp execOp;simp only [ho,resolve,invoke,builtin,Sem.run_bind,Sem.run_pure,Result.andThen_ok,List.map_toArray,List.map_cons,List.map_nil,hs,hx,hrun]
 exact h A' c' w' h2 h3 h4
theorem aIm {ops:Array Oper} {rest:List Oper} {o:Oper} {a:Act} {Q:Exit->Act->World->Prop} (hgd:o.guard=none) (s x:Operand) (t:TypeId)
  (ho:o.op = .call { callee := .builtin .append,args:=#[s,x],argTypes:=#[t,t] })
  (base:Nat) (e:TypeId) (i:TypeInfo) (z:Value) (size bytes:Nat) (ht:P.underlying t=some (.slice e)) (hi:P.info? e=some i) (hz:i.zero=some z)
  (hsize:i.size=size) (hby:i.bytes=bytes) (hzs:z.cells.size=size) (hsz:0<size)
  (A:Option Addr) (n c:Nat) (xs:List Value) (hs:a.eval s = .slice A n c) (hown:w.ownsRow base e size (.slice A n c) n xs)
  (A2:Option Addr) (m c2:Nat) (news:List Value) (hx:a.eval x = .slice A2 m c2) (hr:aW7 w size A2 m news) (h1:∀ u∈news,u.oneCell'=true)
  (h63:n+m<=maxLen) (hbytes:(n+m)*bytes<=140737488355328) (hbase:base<=w.heap.size)
  (h:∀ A' c' w',w'.ownsRow base e size (.slice A' (n+m) c') (n+m) (xs++news)->w.grownBy w' (Value.slice A n c).ownBlock->((Value.slice A' (n+m) c').ownBlock=(Value.slice A n c).ownBlock∨(Value.slice A' (n+m) c').ownBlock=some w.heap.size)->wpList P ops Q rest (a.put o.dst (.slice A' (n+m) c')) w'):wpList P ops Q (o :: rest) a w :=
 wpList_plain hgd fun _ hK=>bKa w s x t ho base e i z size bytes ht hi hz hsize hby hzs hsz A n c xs hs hown A2 m c2 news hx hr h1 h63 hbytes hbase fun A' c' w' h2 h3 h4=>hK _ _ (h A' c' w' h2 h3 h4)
end
theorem aAc.take {α:Type} {size:Nat} {E:World->Nat->Nat->α->Prop} {w:World} {A:Option Addr} {n:Nat} {xs:List α} (h:aAc size E w A n xs) (m:Nat) (hm:m<=n):aAc size E w A m (xs.take m) :=
 ⟨by rw [List.length_take,h.1];omega,fun i x hx=>by
  rw [List.getElem?_take] at hx;split at hx
  .exact h.2 i x hx
  .cases hx⟩
def aC3 (N:Nat) (w W:World):Prop:=w.heap.size<=W.heap.size/\∀ k,N<=k->k<w.heap.size->W.heap[k]?=w.heap[k]?
theorem aC3.refl (N:Nat) (w:World):aC3 N w w:=⟨Nat.le_refl _,fun _ _ _=>rfl⟩
theorem aC3.cell {N:Nat} {w W:World} (h:aC3 N w W) {b o:Nat} (hN:N<=b) (hb:b<w.heap.size):W.cell? ⟨b,o,none⟩=w.cell? ⟨b,o,none⟩:=by unfold World.cell?;rw [h.2 b hN hb]
theorem aC3.back {N:Nat} {a w W:World} (h:aC3 N w W) (k:Bel a w):aC3 N a W:=⟨Nat.le_trans k.size h.1,fun i hN hi=>(h.2 i hN (Nat.lt_of_lt_of_le hi k.size)).trans (k.block i hi)⟩
theorem aC3.up {N M:Nat} {w W:World} (h:aC3 N w W) (hM:N<=M):aC3 M w W:=⟨h.1,fun i hN hi=>h.2 i (Nat.le_trans hM hN) hi⟩
theorem bD4 {N:Nat} {w W:World} {base:Nat} {e:TypeId} {size g n c:Nat} {xs:List Value} (h:w.ownsRow base e size (.slice (some ⟨g,0,none⟩) n c) n xs) (k:aC3 N w W) (hN:N<=g):W.ownsRow base e size (.slice (some ⟨g,0,none⟩) n c) n xs:=by
 refine ⟨h.1,?_⟩
 rcases h.2 with ⟨hv,_⟩ | ⟨g',cap,cur,hv,hb,hg,hr⟩
 .cases hv
 .right
  refine ⟨g',cap,cur,hv,hb,?_,hr⟩
  injection hv with hA;injection hA with hA;injection hA with hA;subst hA
  rw [k.2 g hN (Array.getElem?_eq_some_iff.1 hg).1];exact hg
end Go.Proofs.YtmoebklkkjbigaaGreatDoor

