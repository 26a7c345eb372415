/- Merged. -/
import Derived.RangeFuncNested
import Derived.RangeFuncBound
import Derived.RangeFuncCalls
import Derived.RangeFuncLeaves
import Derived.Shelf.Abstract
import Derived.Shelf.RegionOpen
import Derived.WalkKit
import Derived.OwnWalkIn
import Derived.TacticsInMore
import Derived.LoopNIn
import Derived.LoopIn
import Derived.RangeFuncBox
import Derived.Test.YtdcjnhoabbdanaaGreatDoorZ18
import Derived.Test.YtdcjnhoabbdanaaGreatDoorZ20
set_option linter.unusedSimpArgs false
set_option linter.unnecessarySimpa false
set_option linter.unusedVariables false
set_option maxRecDepth 100000
set_option maxHeartbeats 2000000
open Go.Proofs.Tryz

namespace Go.Proofs.YtdcjnhoabbdanaaGreatDoor
open Go.RowKit
attribute [local go_sem] Oper.semAt_some
theorem aGo (S:Nat) (w:World) :
  Calls prog 96 #[.int .u32 (S:Int)] w fun e w'=>e = .returned (.func (.func 119) #[] #[.pointer (some ⟨w.heap.size,0,none⟩)])/\w'=w.alloc (.cells #[.int .u32 (S:Int)] 34):=by
 go_enter func96,ntmps96;go_wp2;go_ret;exact ⟨rfl,rfl⟩
theorem aD8.same {A B:World} (h:aD8 A) (hs:A.heap.size<=B.heap.size) (hb:B.heap[0]?=A.heap[0]?):aD8 B :=
 ⟨Nat.lt_of_lt_of_le h.1 hs,fun i hi=>(World.cell?_of_block hb).trans (h.2 i hi)⟩
def bA8 (w:World) (B:Nat):Nat:=match w.cell? ⟨B,0,none⟩ with | some (.int _ x)=>x.toNat | _=>0
theorem aMp (n:Nat) (B S:Nat) (w:World) (hn:1<=n) (hS:S<4294967296) (hB:Boxed w B 34 (.int .u32 (S:Int))) (hT:aD8 w) :
  bA7 Fence.wide n prog 119 #[.pointer (some ⟨B,0,none⟩)] (fun v:Nat=>#[.int .i64 (v:Int)]) (fun k=>k=B) (fun k=>k=0) (aAf S) w:=by
 intro l J Jx W hW hJ hJx hY h0
 refine callsIn_of_wp func119 rfl trivial ?_ rfl
 simp only [ntmps119,List.size_toArray,List.length_cons,List.length_nil,Nat.reduceAdd,Nat.reduceSub,Array.replicate_succ,Array.replicate_zero,List.push_toArray,List.append_toArray,List.nil_append,List.cons_append]
 gi_wp2
 gi_loopw [] (fun wr=>∃ (pre:List Nat) (cur:Nat),Hid (Boxed wr B 34 (.int .u32 (cur:Int)))/\Hid (aD8 wr)/\Hid (pre++aAf cur=aAf S)/\Hid (cur<4294967296)/\Hid (J pre wr)) (fun wr=>bA8 wr B)
 case atStart=>exact ⟨[],S,by show Boxed _ _ _ _;exact (hW.block B hB.lt).trans hB,hT.keep hW,by show []++_=_;rfl,hS,h0⟩
 case round =>
  clear h0 hS hB hT;obtain ⟨pre,cur,HX,HT,HP,HC,HJ⟩:=hrel;have hc:=HX.out.cell;have hf:=HX.out.frozen;have hl:=HX.out.lt
  by_cases hz:cur=0
  .have hb:((cur:Int) != 0)=false:=by simp;exact hz
   have HZ:=aA0 hz;clear hz
   gi_wp2
   go_end0
   have h:=HP.out;rw [HZ.out,aM0,List.append_nil] at h;exact ⟨⟨_,rfl⟩,.inl (by rw [<- h];exact HJ.out)⟩
  .have hb:((cur:Int) != 0)=true:=by simp;exact hz
   obtain ⟨k,m,e1,hk,_,e2,e3⟩:=aJz HC.out hz
   have q:bits .and .u32 (cur:Int) (((cur:Int)-1) % 4294967296)=((2 ^ k*(2*m):Nat):Int):=by
    rw [show ((cur:Int)-1) % 4294967296=((cur-1:Nat):Int) by have:=HC.out;omega,aCm HC.out (by have:=HC.out;omega),e2]
   have hlt:2 ^ k*(2*m)<cur:=by
    have:2 ^ k*(2*m)+2 ^ k=cur:=by rw [e1,Nat.mul_add,Nat.mul_one]
    have:=Nat.two_pow_pos k;omega
   have HQ:Hid (pre++[k]++aAf (2 ^ k*(2*m))=aAf S):=by
    have:=HP.out;rw [e3] at this;show _=_
    rw [List.append_assoc];exact this
   have hpre:pre++[k] <+: aAf S:=⟨_,HQ.out⟩;obtain ⟨fn,tmps,assign,body,hy,hR⟩:=hY pre k wr hpre HJ.out;generalize 2 ^ k*(2*m)=nx at q hlt HQ;have HE1:=aA0 e1;have HLT:=aA0 hlt;have HZ:=aA0 hz;clear e1 e2 e3 hz hlt hpre hk
   gi_wp2_with (refine ⟨trivial,?_⟩;gi_at_call 120;refine (callsIn_wide.2 (bAf cur k m _ HT.out HC.out HE1.out)).mono ?_;rintro e w' ⟨rfl,rfl⟩)
   refine hR.mono ?_
   rintro e w' (⟨rfl,hJ',hs⟩ | ⟨rfl,hJx'⟩)
   .have hbx:Boxed w' B 34 (.int .u32 (cur:Int)):=(hs.2 B HX.out.lt (.inl rfl)).trans HX.out
    have HT':Hid (aD8 w'):=HT.out.same hs.1 (hs.2 _ HT.out.1 (.inr rfl));have hc':=hbx.cell;have hf':=hbx.frozen;have hl':=hbx.lt;have HX':=aA0 hbx;have HJ':=aA0 hJ';clear hbx hJ' hs hc hf hl
    gi_wp2
    go_roundw
    case rel =>
     refine ⟨pre++[k],nx,HX'.out.set _,HT'.out.same (by simp) (Below.heap_setCell _ _ _ _ ?_),HQ.out,by have:=HC.out;have:=HLT.out;show _<_;omega,hJ _ _ _ HJ'.out (Agr.setCell _ _ _ rfl)⟩
     have h1:=HX'.out;have h2:=HT'.out.2 0 (by decide)
     intro e
     simp only at e
     subst e;rw [h1.cell] at h2;cases h2
    case measure =>
     have e1:bA8 wr B=cur:=by unfold bA8;rw [HX.out.cell];simp
     have e2:∀ W:World,Boxed W B 34 (.int .u32 (nx:Int))->bA8 W B=nx:=fun W h=>by unfold bA8;rw [h.cell];simp
     rw [e1,e2 _ (HX'.out.set _)];exact HLT.out
   .gi_wp2
    refine bodyPost_ret (results_none rfl _ _ _) rfl ?_
    exact ⟨⟨_,rfl⟩,.inr ⟨pre++[k],⟨_,HQ.out⟩,hJx'⟩⟩
end Go.Proofs.YtdcjnhoabbdanaaGreatDoor

namespace Go.Proofs.YtdcjnhoabbdanaaGreatDoor
def aFs (g:Graph) (c:aA5) (v:Nat) (e:List Term):Bool:=aAn g c v (-1) (aAo e) != 0
def aC5 (rs:List Rule) (g:Graph) (c:aA5) (v:Nat):Int:=match rs.findIdx? (fun r=>aFs g c v r.guard) with | some i=>(i:Int) | none => -1
theorem aKr {rs:List Rule} {g:Graph} {c:aA5} {v j:Nat} (h:j<rs.length) (ha:(rs.take j).all (fun r => !(aFs g c v r.guard))=true) (hj:aFs g c v rs[j].guard=true):aC5 rs g c v=(j:Int):=by
 unfold aC5
 have:rs.findIdx? (fun r=>aFs g c v r.guard)=some j:=by
  rw [List.findIdx?_eq_some_iff_getElem];refine ⟨h,hj,fun k hk=>?_⟩
  have:=List.all_eq_true.1 ha rs[k] (by rw [List.mem_take_iff_getElem];exact ⟨k,by omega,rfl⟩)
  simpa using this
 rw [this]
theorem aM8 {rs:List Rule} {g:Graph} {c:aA5} {v:Nat} (ha:rs.all (fun r => !(aFs g c v r.guard))=true):aC5 rs g c v = -1:=by
 unfold aC5
 have:rs.findIdx? (fun r=>aFs g c v r.guard)=none:=by
  rw [List.findIdx?_eq_none_iff];intro x hx
  have:=List.all_eq_true.1 ha x hx;simpa using this
 rw [this]
theorem aKq (rs:List Rule) (g:Graph) (c:aA5) (v:Nat) :
  (aC5 rs g c v = -1/\∀ r∈rs,aFs g c v r.guard=false) ∨
  ∃ k:Nat,∃ hk:k<rs.length,aC5 rs g c v=(k:Int)/\aFs g c v rs[k].guard=true/\∀ i (hi:i<k),aFs g c v rs[i].guard=false:=by
 unfold aC5;cases hf:rs.findIdx? (fun r=>aFs g c v r.guard) with
 | none =>
  left
  rw [List.findIdx?_eq_none_iff] at hf;exact ⟨rfl,fun r hr=>by simpa using hf r hr⟩
 | some k =>
  right
  rw [List.findIdx?_eq_some_iff_getElem] at hf;obtain ⟨hk,h1,h2⟩:=hf;exact ⟨k,hk,rfl,h1,fun i hi=>by simpa using h2 i hi⟩
theorem aKs (rs:List Rule) (g:Graph) (c:aA5) (v:Nat) : -1<=aC5 rs g c v/\aC5 rs g c v<rs.length:=by
 rcases aKq rs g c v with ⟨h,_⟩ | ⟨k,hk,h,_⟩ <;> omega
def aF1 (kind:Int) (b:Int × Int) (x:Int):Int:=if b.1<=x/\x<=b.2 then x else if kind=3 then -1 else if x<b.1 then b.1 else b.2
def aV7 (p:Prg) (x:Int):Var:=p.vars.getD x.toNat default
def aHv (p:Prg) (g:Graph) (c:aA5) (v:Nat) (t:SetT):Int:=aF1 (aV7 p t.var).kind (aAg (aV7 p t.var) g v) (aAn g c v (-1) (aAo t.value))
def aBz (p:Prg) (g:Graph) (c:aA5) (v:Nat) (l:List SetT):List Int:=l.foldl (fun s t=>s.set t.var.toNat (aHv p g c v t)) (c.getD v [])
def aWy (p:Prg) (k:Int):Rule:=p.rules.getD k.toNat default
def aKd (p:Prg) (g:Graph) (c:aA5) (v:Nat):List Int:=aBz p g c v (aWy p (aC5 p.rules g c v)).sets
def aAr (p:Prg) (g:Graph) (c:aA5):Nat:=aD7 c.length fun v=>decide (0<=aC5 p.rules g c v)
def aBe (p:Prg) (g:Graph) (c:aA5) (S:Nat):aA5:=(List.range c.length).map fun v=>if S.testBit v then aKd p g c v else c.getD v []
def aLi (p:Prg) (g:Graph) (c:aA5):Nat:=if aCx p g c≠0 then 0 else aAr p g c
def aX5 (p:Prg) (g:Graph) (c:aA5) (S:Nat):aA5 × Int :=
 if aCx p g c≠0 then ([],aCx p g c) else if S=0∨aB6 S (aAr p g c)=false then ([],11) else (aBe p g c S,0)
theorem aJk (p:Prg) (g:Graph) (c:aA5) (v:Nat) (l:List SetT):(aBz p g c v l).length=(c.getD v []).length:=by
 unfold aBz
 suffices ∀ s:List Int,(l.foldl (fun s t=>s.set t.var.toNat (aHv p g c v t)) s).length=s.length from this _
 induction l with
 | nil=>intro s;rfl
 | cons t l ih=>intro s;rw [List.foldl_cons,ih];simp
theorem aMn (p:Prg) (g:Graph) (c:aA5) (v:Nat) (l:List SetT) (j:Nat) (h:j<l.length):aBz p g c v (l.take (j+1))=(aBz p g c v (l.take j)).set l[j].var.toNat (aHv p g c v l[j]):=by
 unfold aBz;rw [List.take_succ_eq_append_getElem h,List.foldl_append];rfl
theorem aM9 {p:Prg} {g:Graph} (hf:aH4 p g=0) {x:Var} (hx:x∈p.vars) (v:Nat):(aAg x g v).1<=(aAg x g v).2/\(x.kind=3->(aAg x g v).1 = -1):=by
 obtain ⟨h1,h2,h3⟩:=aAq hf;have h4:=List.all_eq_true.1 h3 x hx;have h5:=aDt (List.all_eq_true.1 (aBd h1).1 x hx);unfold aGl at h4;have h4:=of_decide_eq_true h4;unfold aAg at h4 ⊢
 rcases h5 with h | h | h
 .rw [if_pos h.1];simp;omega
 .rw [if_neg (by omega),if_pos h.1];simp;omega
 .have hk:=h.1
  rw [if_neg (by omega),if_neg (by omega)] at h4 ⊢
  dsimp only at h4 ⊢;omega
theorem aPu {kind:Int} {b:Int × Int} (h:b.1<=b.2) (hk:kind=3->b.1 = -1) (x:Int):b.1<=aF1 kind b x/\aF1 kind b x<=b.2:=by
 unfold aF1;split
 .assumption
 split
 .have:=hk (by assumption);omega
 split <;> omega
theorem aU0 {kind:Int} {b:Int × Int} (h:b.1<=b.2) (x:Int):aF1 kind b x=if kind=3/\¬ (b.1<=x/\x<=b.2) then -1 else min (max x b.1) b.2:=by
 unfold aF1
 by_cases h1:b.1<=x/\x<=b.2
 .rw [if_pos h1,if_neg (by omega)];omega
 .rw [if_neg h1]
  by_cases h2:kind=3
  .rw [if_pos h2,if_pos ⟨h2,h1⟩]
  .rw [if_neg h2,if_neg (show ¬ (kind=3/\¬ (b.1<=x/\x<=b.2)) from fun h=>h2 h.1)]
   by_cases h3:x<b.1
   .rw [if_pos h3];omega
   .rw [if_neg h3];omega
theorem aPj {p:Prg} (hc:aBj p=0) {r:Rule} (hr:r∈p.rules) {s:SetT} (hs:s∈r.sets):(aAo s.value).ok/\(aAo s.value).terms=s.value/\(∀ t∈s.value,aFf t p.vars.length=true)/\aAx false (aAo s.value)/\0<=s.var/\s.var<=(p.vars.length:Int)-1:=by
 obtain ⟨h1,_,h3,_,_,h6,h7⟩:=aBd hc;obtain ⟨hv,hval⟩:=(h6 r hr).sets s hs;obtain ⟨t1,t2,_,t4,_,_⟩:=aEg hval;refine ⟨t1,t2,t4,aNw (kinds:=aBg p) (b:=false) ?_,hv.1,hv.2⟩
 have h8:=h7 r hr;unfold aBx at h8;simp only [Bool.and_eq_true,List.all_eq_true,beq_iff_eq] at h8
 rw [h8.2 s hs];obtain ⟨x,hx⟩:=Int.eq_ofNat_of_zero_le hv.1;rw [hx,Int.toNat_natCast,aA6 (by rw [aD1];omega)]
 have:=aMf h1;have hk:=List.all_eq_true.1 this _ (List.getElem_mem (show x<(aBg p).length by rw [aD1];omega))
 unfold aDq at hk;simp at hk
 omega
theorem aLu {p:Prg} {g:Graph} {c:aA5} (hm:aCx p g c=0) {v:Nat} (hv:v<c.length):aE0 (aI2 p g v) (c.getD v [])=true:=by
 obtain ⟨_,h2⟩:=aB9 hm;obtain ⟨h3,h4⟩:=aC4.1 h2;have:=h4 v hv (by omega)
 rw [aEf] at this
 rwa [aA6 hv]
theorem aQf {p:Prg} {g:Graph} {c d:aA5} (hm:aCx p g c=0) (hl:d.length=c.length) (h:∀ v,v<d.length->aE0 (aI2 p g v) (d.getD v [])=true):aCx p g d=0:=by
 obtain ⟨h1,h2⟩:=aB9 hm
 have h3:aGj (aAv p g) d=true:=by
  rw [aC4];refine ⟨by rw [hl];exact (aC4.1 h2).1,fun v a b=>?_⟩
  rw [aEf];have:=h v a
  rwa [aA6 a] at this
 unfold aCx;rw [if_neg (by simpa using h1),h3];simp
theorem aFg {p:Prg} {g:Graph} {c:aA5} (hm:aCx p g c=0):c.length=g.ports.length:=by
 obtain ⟨h1,h2⟩:=aB9 hm;rw [(aC4.1 h2).1,aC9,(aAq h1).2.1.ids]
theorem aWw {p:Prg} {g:Graph} {c:aA5} (hm:aCx p g c=0) {v:Nat} (hv:v<c.length):(c.getD v []).length=p.vars.length:=by
 rw [(aC3.1 (aLu hm hv)).1,aBw]
theorem aYx {p:Prg} {x:Int} (h0:0<=x) (h1:x<=(p.vars.length:Int)-1):∃ i:Nat,∃ hi:i<p.vars.length,x=(i:Int)/\x.toNat=i/\aV7 p x=p.vars[i]:=by
 obtain ⟨i,rfl⟩:=Int.eq_ofNat_of_zero_le h0;exact ⟨i,by omega,rfl,Int.toNat_natCast i,by unfold aV7;rw [Int.toNat_natCast];exact aA6 (by omega)⟩
theorem aSh {p:Prg} {g:Graph} {c:aA5} (hm:aCx p g c=0) {v:Nat} (hv:v<c.length) {l:List SetT} (hl:∀ s∈l,0<=s.var/\s.var<=(p.vars.length:Int)-1):aE0 (aI2 p g v) (aBz p g c v l)=true:=by
 have hf:=(aB9 hm).1;unfold aBz
 suffices ∀ s:List Int,aE0 (aI2 p g v) s=true->aE0 (aI2 p g v) (l.foldl (fun s t=>s.set t.var.toNat (aHv p g c v t)) s)=true from this _ (aLu hm hv)
 induction l with
 | nil=>intro s h;exact h
 | cons t l ih =>
  intro s h
  rw [List.foldl_cons];refine ih (fun s hs=>hl s (by simp [hs])) _ ?_
  obtain ⟨h0,h1⟩:=hl t (by simp)
  obtain ⟨i,hi,_,ei,ev⟩:=aYx h0 h1;rw [ei];obtain ⟨a1,a2⟩:=aC3.1 h;rw [aC3];refine ⟨by simpa using a1,fun k b1 b2=>?_⟩
  by_cases hk:i=k
  .subst hk
   rw [List.getElem_set_self,aPe];unfold aHv;rw [ev];obtain ⟨q1,q2⟩:=aM9 hf (List.getElem_mem hi) v;exact aPu q1 q2 _
  .rw [List.getElem_set_ne hk]
   exact a2 k (by simpa using b1) b2
theorem aWz {p:Prg} (hc:aBj p=0) {k:Nat} (hk:k<p.rules.length):∀ s∈p.rules[k].sets,0<=s.var/\s.var<=(p.vars.length:Int)-1:=fun s hs=>by
 obtain ⟨_,_,_,_,h5,h6⟩:=aPj hc (List.getElem_mem hk) hs;exact ⟨h5,h6⟩
theorem aN4 {p:Prg} {k:Nat} (hk:k<p.rules.length):aWy p (k:Int)=p.rules[k]:=by
 unfold aWy;rw [Int.toNat_natCast];exact aA6 hk
theorem aUl {p:Prg} {g:Graph} {c:aA5} (hm:aCx p g c=0) {v:Nat} (hv:v<c.length) (hen:0<=aC5 p.rules g c v):aE0 (aI2 p g v) (aKd p g c v)=true:=by
 rcases aKq p.rules g c v with ⟨h,_⟩ | ⟨k,hk,h,_⟩
 .omega
 .unfold aKd
  rw [h,aN4 hk];exact aSh hm hv (aWz (aAq (aB9 hm).1).1 hk)
theorem aDy (p:Prg) (g:Graph) (c:aA5) (S:Nat):(aBe p g c S).length=c.length:=by simp [aBe]
theorem aX4 (p:Prg) (g:Graph) (c:aA5) (S:Nat) {v:Nat} (hv:v<c.length):(aBe p g c S).getD v []=if S.testBit v then aKd p g c v else c.getD v []:=by
 rw [aA6 (by rw [aDy];exact hv)]
 simp [aBe]
theorem aM2 {p:Prg} {g:Graph} {c:aA5} {v:Nat}:(aAr p g c).testBit v=(decide (v<c.length)&&decide (0<=aC5 p.rules g c v)):=aI3 _ _ _
theorem aTp {p:Prg} {g:Graph} {c:aA5} (hm:aCx p g c=0) {S:Nat} (hS:∀ v,v<c.length->S.testBit v=true->0<=aC5 p.rules g c v):aCx p g (aBe p g c S)=0:=by
 refine aQf hm (aDy _ _ _ _) fun v hv=>?_
 rw [aDy] at hv;rw [aX4 p g c S hv];cases hb:S.testBit v with
 | true=>exact aUl hm hv (hS v hv hb)
 | false=>exact aLu hm hv
def aZo (g:Graph) (S:Nat):Nat:=aD7 g.ports.length fun v=>(g.ports.getD v []).any fun l=>aP1 S l.to
def aNv (g:Graph) (S:Nat):Bool:=aDa g&&aB6 S (aD7 g.ports.length fun _=>true)&&(List.range 32).all fun v => !((aZo g S).testBit v&&S.testBit v)
open Go.RowKit
theorem aBk.cells {w:World} {A:Option Addr} {l:List Int} (h:aBk w A l.length l):aLn w 1 A l.length (l.map (Value.int .i64)):=by
 refine ⟨by simp,fun j u hu=>?_⟩
 rw [List.getElem?_map] at hu;cases hx:l[j]? with
 | none=>rw [hx] at hu;cases hu
 | some x =>
  rw [hx] at hu;obtain rfl:Value.int .i64 x=u:=by simpa using hu
  obtain ⟨b,o,e,_,hc⟩:=h.2 j x hx;exact ⟨b,o,e,by simpa [aH3] using hc⟩
theorem aEn (l:List Int):∀ u∈l.map (Value.int .i64),u.oneCell'=true:=by
 intro u hu
 obtain ⟨x,_,rfl⟩:=List.mem_map.1 hu;rfl
def Off (g:Nat) (A:Option Addr):Prop:=∀ b o,A=some ⟨b,o,none⟩->b≠g
theorem aBk.other {w:World} {A:Option Addr} {l:List Int} {g v:Nat} {x:Value} (h:aBk w A l.length l) (ho:Off g A):aBk (w.setCell ⟨g,v,none⟩ x) A l.length l:=by
 refine ⟨rfl,fun i y hy=>?_⟩
 obtain ⟨b,o,rfl,hb,hc⟩:=h.2 i y hy
 exact ⟨b,o,rfl,by simpa using hb,by
  unfold aH3 at *;rw [((Fr.refl g w).set v x).cell hb (ho b o rfl)];exact hc⟩
structure OwnC (w:World) (base g cap:Nat) (d:aA5) (hs:List Value):Prop where
 own:w.ownsRow base 26 1 (.slice (some ⟨g,0,none⟩) d.length cap) d.length hs
 rows:∀ u (hu:u<d.length),∃ R c',hs[u]?=some (.slice R d[u].length c')/\aBk w R d[u].length d[u]/\d[u].length<=c'/\c'<=maxLen/\Off g R
theorem OwnC.keep {w w':World} {base g cap:Nat} {d:aA5} {hs:List Value} (h:OwnC w base g cap d hs) (k:Bel w w'):OwnC w' base g cap d hs :=
 ⟨k.owns h.own,fun u hu=>by
  obtain ⟨R,c',h1,h2,h3⟩:=h.rows u hu;exact ⟨R,c',h1,h2.keep k,h3⟩⟩
theorem OwnC.conf {w:World} {base g cap:Nat} {d:aA5} {hs:List Value} (h:OwnC w base g cap d hs):aAz w (.slice (some ⟨g,0,none⟩) d.length cap) d:=by
 obtain ⟨h1,h2⟩:=aDv h.own;refine ⟨_,_,rfl,⟨rfl,fun u x hx=>?_⟩,h1,h2⟩
 have hu:u<d.length:=(List.getElem?_eq_some_iff.1 hx).1;have hxe:d[u]=x:=(List.getElem?_eq_some_iff.1 hx).2;obtain ⟨R,c',k1,k2,k3,k4,_⟩:=h.rows u hu;obtain ⟨g',e1,_,hlt,hc,_⟩:=aDb h.own k1;obtain rfl:g=g':=by simpa using e1
 subst hxe;exact ⟨g,0,rfl,hlt,R,c',by rw [Nat.zero_add,Nat.mul_one];exact hc,k2,k3,k4⟩
theorem OwnC.set {w:World} {base g cap:Nat} {d:aA5} {hs:List Value} (h:OwnC w base g cap d hs) {v:Nat} {l:List Int} {A:Option Addr} {c':Nat} (hv:v<d.length) (hl:aBk w A l.length l) (h1:l.length<=c') (h2:c'<=maxLen) (ho:Off g A) :
  OwnC (w.setCell ⟨g,v,none⟩ (.slice A l.length c')) base g cap (d.set v l) (hs.set v (.slice A l.length c')):=by
 have hlen:hs.length=d.length:=by have:=h.own.1;omega
 refine ⟨by rw [List.length_set];exact (h.own.stored v _).1,fun u hu=>?_⟩
 rw [List.length_set] at hu
 by_cases he:v=u
 .subst he
  rw [List.getElem_set_self];exact ⟨A,c',List.getElem?_set_self (by omega),hl.other ho,h1,h2,ho⟩
 .rw [List.getElem_set_ne he]
  obtain ⟨R,c2,k1,k2,k3,k4,k5⟩:=h.rows u hu;exact ⟨R,c2,by rw [List.getElem?_set_ne he];exact k1,k2.other k5,k3,k4,k5⟩
def aOh (w:World) (B:Nat) (A:Option Addr) (c:Nat) (l:List Int):Prop:=aBk w A l.length l/\l.length<=c/\c<=maxLen/\∀ b o,A=some ⟨b,o,none⟩->B<=b/\b<w.heap.size
theorem aOh.off {w:World} {B:Nat} {A:Option Addr} {c:Nat} {l:List Int} (h:aOh w B A c l) {g:Nat} (hg:g<B):Off g A:=fun b o e=>by have:=h.2.2.2 b o e;omega
theorem aOh.keep {w w':World} {B:Nat} {A:Option Addr} {c:Nat} {l:List Int} (h:aOh w B A c l) (k:Bel w w'):aOh w' B A c l:=⟨h.1.keep k,h.2.1,h.2.2.1,fun b o e=>⟨(h.2.2.2 b o e).1,Nat.lt_of_lt_of_le (h.2.2.2 b o e).2 k.size⟩⟩
theorem aOh.lower {w:World} {B B':Nat} {A:Option Addr} {c:Nat} {l:List Int} (h:aOh w B A c l) (hB:B'<=B):aOh w B' A c l:=⟨h.1,h.2.1,h.2.2.1,fun b o e=>⟨Nat.le_trans hB (h.2.2.2 b o e).1,(h.2.2.2 b o e).2⟩⟩
theorem aOh.gr {w w':World} {B:Nat} {A:Option Addr} {c:Nat} {l:List Int} {row:Option Nat} (h:aOh w B A c l) (hg:Gr row w w') (ho:∀ b o,A=some ⟨b,o,none⟩->some b≠row):aOh w' B A c l :=
 ⟨⟨rfl,fun i x hx=>by
  obtain ⟨b,o,e,hb,hc⟩:=h.1.2 i x hx;exact ⟨b,o,e,Nat.lt_of_lt_of_le hb hg.1,(hg.cell hb (ho b o e)).trans hc⟩⟩,h.2.1,h.2.2.1,fun b o e=>⟨(h.2.2.2 b o e).1,Nat.lt_of_lt_of_le (h.2.2.2 b o e).2 hg.1⟩⟩
theorem aJq {w:World} {base:Nat} {e:TypeId} {A:Option Addr} {n c:Nat} {l:List Int} (h:w.ownsRow base e 1 (.slice A n c) n (l.map (Value.int .i64))):n=l.length/\aOh w base A c l:=by
 have hn:n=l.length:=by have:=h.1;simp at this;omega
 subst hn;obtain ⟨h1,h2⟩:=aDv h;refine ⟨rfl,aJp h,h1,h2,fun b o e=>?_⟩
 subst e
 rcases h.2 with ⟨hv,_⟩ | ⟨g',cap,cur,hv,hb,hg,_⟩
 .cases hv
 .injection hv with hA;injection hA with hA;injection hA with hA;subst hA;exact ⟨hb,lt_of_block hg⟩
theorem aZr {w:World} {base:Nat} {e:TypeId} {size n m cap:Nat} {B:Option Addr} {hs:List Value} (h:w.ownsRow base e size (.slice B n cap) n hs) (hn:n=m):w.ownsRow base e size (.slice B m cap) m hs:=by subst hn;exact h
theorem bAd {w:World} {base:Nat} {e:TypeId} {size n cap g o:Nat} {hs:List Value} (h:w.ownsRow base e size (.slice (some ⟨g,o,none⟩) n cap) n hs):g<w.heap.size:=by
 rcases h.2 with ⟨hv,_⟩ | ⟨g',_,_,hv,_,hg,_⟩
 .cases hv
 .injection hv with hA;injection hA with hA;injection hA with hA;subst hA;exact lt_of_block hg
theorem aWn (A:Option Addr) (n c:Nat):∀ u∈(#[Value.slice A n c]:Array Value).toList,u.oneCell'=true:=by simp [Value.oneCell']
structure AppC (w:World) (base:Nat) (B:Option Addr) (cap:Nat) (d:aA5) (hs:List Value):Prop where
 own:w.ownsRow base 26 1 (.slice B d.length cap) d.length hs
 rows:∀ u (hu:u<d.length),∃ R c',hs[u]?=some (.slice R d[u].length c')/\aOh w base R c' d[u]/\∀ g o,B=some ⟨g,o,none⟩->Off g R
theorem AppC.nil (w:World) (base:Nat):AppC w base none 0 [] []:=⟨World.ownsRow_nil _ _ _ _,fun u hu=>absurd hu (by simp)⟩
theorem AppC.keep {w w':World} {base cap:Nat} {B:Option Addr} {d:aA5} {hs:List Value} (h:AppC w base B cap d hs) (k:Bel w w'):AppC w' base B cap d hs :=
 ⟨k.owns h.own,fun u hu=>by
  obtain ⟨R,c',h1,h2,h3⟩:=h.rows u hu;exact ⟨R,c',h1,h2.keep k,h3⟩⟩
theorem AppC.push {w w':World} {base cap n:Nat} {B:Option Addr} {d:aA5} {hs:List Value} (h:AppC w base B cap d hs) (hn:d.length=n) {l:List Int} {A:Option Addr} {c:Nat} (hN:aOh w base A c l) (hoff:∀ g o,B=some ⟨g,o,none⟩->Off g A) {o:Obj}
  {B':Option Addr} {cap':Nat} (hown:w'.ownsRow base 26 1 (.slice B' (n+1) cap') (n+1) (hs++[.slice A l.length c])) (hgr:(w.alloc o).grownBy w' (Value.slice B n cap).ownBlock)
  (hat:(Value.slice B' (n+1) cap').ownBlock=(Value.slice B n cap).ownBlock∨(Value.slice B' (n+1) cap').ownBlock=some (w.alloc o).heap.size):AppC w' base B' cap' (d++[l]) (hs++[.slice A l.length c]):=by
 have hlen:hs.length=d.length:=by have:=h.own.1;omega
 have hg:Gr (Value.slice B n cap).ownBlock w w':=(Gr.of_bel ((Bel.refl w).alloc o)).trans (Gr.grown hgr)
 have hb0:∀ R:Option Addr,(∀ g o,B=some ⟨g,o,none⟩->Off g R)->∀ b o,R=some ⟨b,o,none⟩->some b≠(Value.slice B n cap).ownBlock:=by
  intro R hR b o e hb
  rcases h.own.2 with ⟨hv,_⟩ | ⟨g',_,_,hv,_,_,_⟩
  .injection hv with hA;subst hA;cases hb
  .injection hv with hA;subst hA
   obtain rfl:b=g':=by simpa [Value.ownBlock] using hb
   exact hR b 0 rfl b o e rfl
 have hnew:∀ R:Option Addr,∀ c (l:List Int),aOh w base R c l->(∀ g o,B=some ⟨g,o,none⟩->Off g R)->∀ g o,B'=some ⟨g,o,none⟩->Off g R:=by
  intro R c l hR hRo g o' e b o2 eR hbg
  subst e;subst hbg
  rcases hat with hat | hat
  .exact hb0 R hRo b o2 eR (by rw [<- hat];simp [Value.ownBlock])
  .have:=(hR.2.2.2 b o2 eR).2
   simp [Value.ownBlock] at hat
   omega
 refine ⟨by rw [List.length_append,hn];exact hown,fun u hu=>?_⟩
 by_cases hu':u<d.length
 .obtain ⟨R,c',k1,k2,k3⟩:=h.rows u hu'
  rw [List.getElem_append_left hu'];exact ⟨R,c',by rw [List.getElem?_append_left (by omega)];exact k1,k2.gr hg (hb0 R k3),hnew R _ _ k2 k3⟩
 .have:u=d.length:=by simp at hu;omega
  subst this;rw [List.getElem_append_right (Nat.le_refl _)];simp only [Nat.sub_self,List.getElem_singleton]
  exact ⟨A,c,by rw [List.getElem?_append_right (by omega),hlen];simp,hN.gr hg (hb0 A hoff),hnew A _ _ hN hoff⟩
theorem AppC.ownC {w:World} {base cap g:Nat} {d:aA5} {hs:List Value} (h:AppC w base (some ⟨g,0,none⟩) cap d hs):OwnC w base g cap d hs :=
 ⟨h.own,fun u hu=>by
  obtain ⟨R,c',h1,h2,h3⟩:=h.rows u hu;exact ⟨R,c',h1,h2.1,h2.2.1,h2.2.2.1,h3 g 0 rfl⟩⟩
theorem AppC.form {w:World} {base cap:Nat} {B:Option Addr} {d:aA5} {hs:List Value} (h:AppC w base B cap d hs) (hd:0<d.length):∃ g,B=some ⟨g,0,none⟩:=by
 obtain ⟨g,cap',hv,_⟩:=h.own.form hd;injection hv with hA
 exact ⟨g,hA⟩
def aVf (l:List Int) (w:World) (e:Ending) (w':World):Prop:=∃ A c,e = .returned (.slice A l.length c)/\aOh w' w.heap.size A c l/\Bel w w'
def aGe (N:Nat) (w:World) (hs:List Value):Prop:=∀ v∈hs,∀ b o n c,v = .slice (some ⟨b,o,none⟩) n c->N<=b/\b<w.heap.size
theorem aGe.size {N:Nat} {w w':World} {hs:List Value} (h:aGe N w hs) (k:w.heap.size<=w'.heap.size):aGe N w' hs:=fun v hv b o n c e=>⟨(h v hv b o n c e).1,Nat.lt_of_lt_of_le (h v hv b o n c e).2 k⟩
theorem aGe.zero (N n:Nat) (w:World):aGe N w (List.replicate n (.slice none 0 0)):=fun v hv b o n' c e=>by
 rw [List.eq_of_mem_replicate hv] at e;cases e
theorem aGe.set {N B:Nat} {w:World} {hs:List Value} (h:aGe N w hs) {A:Option Addr} {n c:Nat} {l:List Int} (hN:aOh w B A c l) (hB:N<=B) (i:Nat):aGe N w (hs.set i (.slice A n c)):=fun v hv b o n' c' e=>by
 rcases List.mem_or_eq_of_mem_set hv with hv | hv
 .exact h v hv b o n' c' e
 .subst hv
  injection e with e
  obtain ⟨h1,h2⟩:=hN.2.2.2 b o e;exact ⟨Nat.le_trans hB h1,h2⟩
theorem OwnC.newC {w W:World} {N g cap:Nat} {d:aA5} {hs:List Value} (h:OwnC w N g cap d hs) (hn:aGe N w hs) (k:aAt N w W):aAz W (.slice (some ⟨g,0,none⟩) d.length cap) d:=by
 refine OwnC.conf (base:=N) (hs:=hs) ⟨aTi h.own k (aBa h.own).1,fun u hu=>?_⟩
 obtain ⟨R,c',h1,h2,h3⟩:=h.rows u hu;refine ⟨R,c',h1,⟨h2.1,fun i x hx=>?_⟩,h3⟩
 obtain ⟨b,o,e,hb,hc⟩:=h2.2 i x hx;subst e;obtain ⟨n1,n2⟩:=hn _ (List.mem_of_getElem? h1) b o _ _ rfl;exact ⟨b,o,rfl,Nat.lt_of_lt_of_le hb k.1,(k.cell n1 n2).trans hc⟩
def aRr (d:aA5) (w:World) (e:Ending) (w':World):Prop:=∃ g cap hs,e = .returned (.slice (some ⟨g,0,none⟩) d.length cap)/\OwnC w' w.heap.size g cap d hs/\aGe w.heap.size w' hs/\Bel w w'
theorem OwnC.zero {w:World} {base g cap n:Nat} {hs:List Value} (h:w.ownsRow base 26 1 (.slice (some ⟨g,0,none⟩) n cap) n hs) (hs0:hs=List.replicate n (.slice none 0 0)):OwnC w base g cap (List.replicate n []) hs:=by
 refine ⟨by rw [List.length_replicate];exact h,fun u hu=>?_⟩
 rw [List.length_replicate] at hu;refine ⟨none,0,?_,?_,?_,?_,fun b o e=>by cases e⟩
 .subst hs0;rw [List.getElem_replicate];rw [List.getElem?_replicate,if_pos hu];rfl
 .rw [List.getElem_replicate];exact aAc.nil
 .rw [List.getElem_replicate];exact Nat.le_refl _
 .unfold maxLen;omega
def aM6 (c:aA5) (k:Nat):aA5:=c.take k++List.replicate (c.length-k) []
theorem aHf (c:aA5) (k:Nat):(aM6 c k).length=c.length:=by simp [aM6];omega
theorem aU5 (c:aA5):aM6 c 0=List.replicate c.length []:=by simp [aM6]
theorem aU3 (c:aA5):aM6 c c.length=c:=by simp [aM6]
theorem aT6 (c:aA5) (k i:Nat):(aM6 c k)[i]?=if i<c.length then some (if i<k then c.getD i [] else []) else none:=by
 unfold aM6;rw [List.getElem?_append]
 by_cases hi:i<c.length
 .rw [if_pos hi]
  by_cases hk:i<k
  .rw [if_pos hk,if_pos (by rw [List.length_take];omega),List.getElem?_take_of_lt hk,List.getElem?_eq_getElem hi,aA6 hi]
  .rw [if_neg hk,if_neg (by rw [List.length_take];omega),List.getElem?_replicate,if_pos (by rw [List.length_take];omega)]
 .rw [if_neg hi]
  by_cases hk:i<(c.take k).length
  .rw [List.length_take] at hk;omega
  .rw [if_neg hk,List.getElem?_replicate,if_neg (by rw [List.length_take] at *;omega)]
theorem aU4 (c:aA5) (k:Nat) (h:k<c.length):(aM6 c k).set k c[k]=aM6 c (k+1):=by
 apply List.ext_getElem?
 intro i
 rw [List.getElem?_set,aT6,aT6,aHf]
 by_cases he:k=i
 .subst he
  rw [if_pos rfl,if_pos h,if_pos h,if_pos (by omega),aA6 h]
 .rw [if_neg he]
  by_cases hi:i<c.length
  .rw [if_pos hi,if_pos hi]
   by_cases hk:i<k
   .rw [if_pos hk,if_pos (by omega)]
   .rw [if_neg hk,if_neg (by omega)]
  .rw [if_neg hi,if_neg hi]
theorem aO9:(prog.info? 26).map (fun i=>(i.zero,i.size,i.bytes))=some (some (.slice none 0 0),1,24):=by kernel_rfl
theorem aJf:(prog.info? 3).map (fun i=>(i.zero,i.size,i.bytes))=some (some (.int .i64 0),1,8):=by kernel_rfl
theorem aKw (v:Value) (c:aA5) (w:World) (h:aAz w v c) (hL:aBo c=true) :
  Calls prog 51 #[v] w (aRr c w):=by
 obtain ⟨A,k,rfl,hR,_,_⟩:=h;have HR:=aA0 (fun w' (kk:Bel w w')=>hR.keep kk);obtain ⟨l1,l2⟩:=aCj hL;have HL2:=aA0 l2;clear hR l2 hL;obtain ⟨i0,hi0,hz0,hz1,hz2⟩:=info_parts aO9;obtain ⟨j0,hj0,hy0,hy1,hy2⟩:=info_parts aJf;go_enter func51,ntmps51
 go_wp2_with (at_make;refine aFd _ rfl 30 (.tmp 7) (.tmp 7) rfl w.heap.size 26 i0 (.slice none 0 0) 1 underlying30 hi0 hz0 hz1 .i64 .i64 c.length rfl rfl (by rw [hz2];omega) (by unfold maxLen;omega) (by simp) ?_;intro gb w1 hown hb;have HW:=hb;rw [aJh _ rfl] at hown;have HO:=aA0 (OwnC.zero hown rfl);clear hown hb)
 go_loopg [4,5,11] c.length (fun m _x _y z wr=>∃ (v:Nat) (hs:List Value),v<=c.length/\m=c.length-v/\z = .int .i64 v/\Hid (OwnC wr w.heap.size gb c.length (aM6 c v) hs)/\Hid (aGe w.heap.size wr hs)/\Bel w wr)
 case atStart=>exact ⟨0,_,by omega,rfl,rfl,by show OwnC _ _ _ _ _ _;rw [aU5];exact HO.out,aGe.zero _ _ _,HW⟩
 case round =>
  clear HO HW;obtain ⟨v,hs,hv,rfl,rfl,HO,HSN,HW⟩:=hrel
  by_cases hlt:v<c.length
  .have hd0:decide (v<c.length)=true:=by simpa using hlt
   obtain ⟨b,o,R,rc,rfl,hbl,hcell,hI,_,_⟩:=(HR.out _ HW).at_ v hlt;have hle:=HL2.out _ (List.getElem_mem hlt);have HI:=aA0 hI;have HWZ:=aA0 HW.size;clear hI;have hbase:=aBa HO.out.own;have HSL:Hid (hs.length=c.length):=by have:=HO.out.own.1;rw [aHf] at this;show _=_;omega
   go_wp2_with (at_builtin;go_must (refine aEs _ rfl (.const (.slice none 0 0)) (.tmp 18) 26 rfl wr.heap.size 3 j0 (.int .i64 0) 1 8 underlying26 hj0 hy0 hy1 hy2 rfl (by decide) none 0 0 [] rfl (World.ownsRow_nil _ _ _ _) R c[v].length rc (c[v].map (Value.int .i64)) rfl HI.out.cells (aEn _) (by unfold maxLen;omega) (by omega) (Nat.le_refl _) ?_);intro A3 c3 w3 hown3 hgr3 _;rw [List.nil_append,Nat.zero_add] at hown3;have hb3:=(Bel.refl wr).grown hgr3 (fun k hk=>by cases hk);obtain ⟨_,hN⟩:=aJq hown3;have HN:=aA0 hN;have HO3:=aA0 (HO.out.keep hb3);have y1:=aG7 HO3.out.own v (by rw [HSL.out];omega);have y2:=HO3.out.own.frozenAt v;have ygb:=(aBa HO3.out.own).2;replace HW:=HW.trans hb3;have HSN3:=aA0 (HSN.out.size hb3.size);clear hown3 hgr3 hb3 hN)
   go_roundg (c.length-(v+1))
   case rel =>
    have h3:=HN.out;refine ⟨v+1,hs.set v (.slice A3 c[v].length c3),by omega,rfl,by go_num,?_,aGe.size (w:=w3) (HSN3.out.set h3 HWZ.out v) (by simp),HW.setCell (by simp;omega) _⟩
    show OwnC _ _ _ _ _ _
    rw [<- aU4 c v hlt];simpa using HO3.out.set (v:=v) (l:=c[v]) (A:=A3) (c':=c3) (by rw [aHf];exact hlt) h3.1 h3.2.1 h3.2.2.1 (h3.off (by omega))
   case measure=>omega
  .have hd0:decide (v<c.length)=false:=by simpa using hlt
   obtain rfl:v=c.length:=by omega
   go_wp2_with fail
   go_ret;have hO:=HO.out;rw [aU3] at hO;exact ⟨gb,_,hs,rfl,hO,HSN.out,HW⟩
def bA2 (S v:Nat) (b:Bool):Nat:=if b then S|||2 ^ v else S
theorem aZd {S v:Nat} (hS:S<4294967296) (hv:v<32) (b:Bool):bA2 S v b<4294967296:=by
 unfold bA2;split
 .exact Nat.or_lt_two_pow (n:=32) hS (aTs hv)
 .exact hS
theorem aTw (S v:Nat):bA2 S v true|||2 ^ v=bA2 S v true:=by
 unfold bA2;rw [if_pos rfl,Nat.or_assoc,Nat.or_self]
def aRp (ls:List Link):Nat:=ls.foldl (fun s l=>s|||2 ^ l.to.toNat) 0
def aMo (g:Graph) (v:Nat):Nat:=aRp (g.ports.getD v [])
theorem aWg (ls:List Link) (l:Link):aRp (ls++[l])=aRp ls|||2 ^ l.to.toNat:=by unfold aRp;rw [List.foldl_append];rfl
theorem aP5 (ls:List Link) (u:Nat):∀ s:Nat,(ls.foldl (fun s l=>s|||2 ^ l.to.toNat) s).testBit u=(s.testBit u||ls.any fun l=>l.to.toNat==u):=by
 induction ls with
 | nil=>intro s;simp
 | cons l ls ih =>
  intro s
  rw [List.foldl_cons,ih,Nat.testBit_or,aZy,List.any_cons,Bool.or_assoc];rfl
theorem aTb (ls:List Link) (u:Nat):(aRp ls).testBit u=ls.any fun l=>l.to.toNat==u:=by
 unfold aRp;rw [aP5,Nat.zero_testBit,Bool.false_or]
theorem aWf {ls:List Link} (h:∀ l∈ls,l.to.toNat<32):aRp ls<4294967296:=by
 apply Nat.lt_pow_two_of_testBit (n:=32)
 intro i hi
 rw [aTb,List.any_eq_false];intro l hl
 have:=h l hl;simp;omega
theorem aMk {g:Graph} (hg:GOK g) {v:Nat} (hv:v<g.ports.length) {l:Link} (hl:l∈g.ports[v]):0<=l.to/\l.to<(g.ports.length:Int):=by
 obtain ⟨a1,a2,_⟩:=aBs.1 ((aBi.1 (hg.links v hv)).1 l hl);exact ⟨a1,a2⟩
theorem aSk {g:Graph} (hg:GOK g) (v:Nat):aMo g v<4294967296:=by
 unfold aMo
 by_cases hv:v<g.ports.length
 .rw [aA6 hv]
  refine aWf fun l hl=>?_
  have:=aMk hg hv hl;have:=hg.le;omega
 .rw [List.getD_eq_getElem?_getD,List.getElem?_eq_none (by omega)];decide
theorem aTc {g:Graph} {v u:Nat} (hv:v<g.ports.length):(aMo g v).testBit u=true↔∃ l∈g.ports[v],l.to.toNat=u:=by
 unfold aMo;rw [aA6 hv,aTb,List.any_eq_true];simp
theorem aPt {A B:Nat}:A&&&B=0↔∀ u,A.testBit u=true->B.testBit u=false:=by
 constructor
 .intro h u hA
  have:=Nat.testBit_and A B u;rw [h,Nat.zero_testBit,hA,Bool.true_and] at this;exact this.symm
 .intro h
  refine Nat.eq_of_testBit_eq fun u=>?_
  rw [Nat.testBit_and,Nat.zero_testBit];cases hA:A.testBit u with
  | false=>rfl
  | true=>rw [h u hA];rfl
theorem aTa {g:Graph} (hg:GOK g) {S v:Nat}:(aZo g S).testBit v=(decide (v<g.ports.length)&&(aMo g v&&&S != 0)):=by
 unfold aZo;rw [aI3]
 by_cases hv:v<g.ports.length
 .rw [decide_eq_true hv,Bool.true_and,Bool.true_and,Bool.eq_iff_iff,List.any_eq_true,bne_iff_ne,ne_eq,aPt,aA6 hv]
  constructor
  .rintro ⟨l,hl,hb⟩ hall
   obtain ⟨a1,a2⟩:=aMk hg hv hl;have hle:=hg.le;unfold aP1 at hb;simp at hb
   have:=hall l.to.toNat ((aTc hv).2 ⟨l,hl,rfl⟩);rw [hb.2] at this;cases this
  .intro hn
   apply Classical.byContradiction
   intro hx
   apply hn
   intro u hu
   obtain ⟨l,hl,rfl⟩:=(aTc hv).1 hu;obtain ⟨a1,a2⟩:=aMk hg hv hl;have hle:=hg.le;cases hb:S.testBit l.to.toNat with
   | false=>rfl
   | true=>exact absurd ⟨l,hl,by unfold aP1;rw [decide_eq_true a1,decide_eq_true (show l.to<32 by omega),hb];rfl⟩ hx
 .rw [decide_eq_false hv];rfl
def aHh (g:Graph) (S:Nat):Bool:=(aAf S).all fun v=>aMo g v&&&S==0
theorem aOg {S n:Nat} (hn:n<=32) (hS:S<4294967296):aB6 S (aD7 n fun _=>true)=true↔∀ v,S.testBit v=true->v<n:=by
 rw [aCb];constructor
 .intro h v hv
  have:=h v (aJ9 hS hv) hv;rw [aI3] at this;simpa using this
 .intro h v _ hv
  rw [aI3,decide_eq_true (h v hv)];rfl
theorem aKa {g:Graph} {S:Nat} (hS:S<4294967296):aHh g S=true↔∀ v,S.testBit v=true->aMo g v&&&S=0:=by
 unfold aHh;rw [List.all_eq_true];constructor
 .intro h v hv
  have:=h v (aDl.2 ⟨aJ9 hS hv,hv⟩);simpa using this
 .intro h v hv
  simpa using h v (aDl.1 hv).2
theorem aUh {g:Graph} (hg:GOK g) {S:Nat} (hS:S<4294967296) (hw:aB6 S (aD7 g.ports.length fun _=>true)=true):aNv g S=aHh g S:=by
 have hle:=hg.le;have hn:=(aOg (by omega) hS).1 hw
 unfold aNv;rw [(aCz g).2 hg,hw,Bool.true_and,Bool.true_and,Bool.eq_iff_iff,aKa hS,List.all_eq_true];constructor
 .intro h v hv
  have:=h v (by rw [List.mem_range];exact aJ9 hS hv)
  rw [hv,Bool.and_true,aTa hg,decide_eq_true (hn v hv),Bool.true_and] at this;simpa using this
 .intro h v _
  cases hv:S.testBit v with
  | false=>simp
  | true=>rw [aTa hg,h v hv];simp
def aBp (g:Graph) (kind:Int) (E S:Nat):Bool :=
 if S=0 then false else if aB6 S E=false then false
 else if kind=1 then (S&&&(S-1))==0
 else if kind=2 then aHh g S
 else if kind=4 then S==E
 else true
def aIu (g:Graph) (l:List Nat):Nat:=l.foldl (fun s v=>if aMo g v&&&s=0 then s|||2 ^ v else s) 0
def aC7 (g:Graph) (kind:Int) (E W:Nat):Nat :=
 let w:=if W&&&E=0 then lsb E else W&&&E
 if kind=1 then lsb w
 else if kind=2 then aIu g (aAf w)
 else if kind=4 then E
 else w
def aKb (kind:Int):Bool:=decide (1<=kind)&&decide (kind<=4)
attribute [local go_sem] Oper.semAt_some
def aGu (w:World) (b o:Nat) (x:Nat):Prop:=w.cell? ⟨b,o,none⟩=some (.int .u32 (x:Int))
theorem aGu.keeps:aL8 aGu:=fun _ _ _ _ _ k hb h=>(k.cell hb).trans h
def aAb:=aAc 1 aGu
theorem aAb.keep {w w':World} {A:Option Addr} {n:Nat} {xs:List Nat} (h:aAb w A n xs) (k:Bel w w'):aAb w' A n xs:=aAc.keep aGu.keeps h k
theorem aAb.at_ {w:World} {A:Option Addr} {n:Nat} {xs:List Nat} (h:aAb w A n xs) (k:Nat) (hk:k<xs.length) :
  ∃ b o,A=some ⟨b,o,none⟩/\b<w.heap.size/\w.cell? ⟨b,o+k,none⟩=some (.int .u32 (xs[k]:Int)):=by
 obtain ⟨b,o,e,hb,h⟩:=aAc.at_ h k hk;exact ⟨b,o,e,hb,by rw [Nat.mul_one] at h;exact h⟩
def aUo (g:Graph):List Nat:=(List.range g.ports.length).map (aMo g)
def aLc (w:World) (A:Option Addr) (g:Graph):Prop:=aAb w A g.ports.length (aUo g)
theorem aLc.keep {w w':World} {A:Option Addr} {g:Graph} (h:aLc w A g) (k:Bel w w'):aLc w' A g:=aAb.keep h k
theorem aLc.at_ {w:World} {A:Option Addr} {g:Graph} (h:aLc w A g) {v:Nat} (hv:v<g.ports.length) :
  ∃ b o,A=some ⟨b,o,none⟩/\b<w.heap.size/\w.cell? ⟨b,o+v,none⟩=some (.int .u32 (aMo g v:Int)):=by
 obtain ⟨b,o,e,hb,h⟩:=aAb.at_ h v (by unfold aUo;simpa using hv)
 refine ⟨b,o,e,hb,?_⟩
 rw [h];simp [aUo]
theorem aW4 (A:Option Addr) (c:Nat) (g:Graph) (S:Nat) (w:World) (hN:aLc w A g) (hT:aD8 w) (hS:S<4294967296) (hw:∀ v,S.testBit v=true->v<g.ports.length) (hg:GOK g) :
  Calls prog 109 #[.slice A g.ports.length c,.int .u32 (S:Int)] w fun e w'=>e = .returned (.bool (aHh g S))/\Bel w w':=by
 have HN:=aA0 (fun w' (k:Bel w w')=>hN.keep k);have HT:=aA0 (fun w' (k:Bel w w')=>hT.keep k);refine aIq func109 rfl ?_
 simp only [ntmps109,List.size_toArray,List.length_cons,List.length_nil,Nat.reduceAdd,Nat.reduceSub,Array.replicate_succ,Array.replicate_zero,List.push_toArray,List.append_toArray,List.nil_append,List.cons_append]
 go_wp2_with (go_at_call 96;refine (aGo _ _).mono ?_;rintro e w' ⟨rfl,rfl⟩)
 obtain ⟨W0,hW0⟩:∃ W0,(((w.alloc (.cells #[.slice A g.ports.length c] 66)).alloc (.cells #[.int .u32 (S:Int)] 34)).alloc (.cells #[.bool false] 4)).alloc (.cells #[.int .u32 (S:Int)] 34)=W0:=⟨_,rfl⟩;have b1:Boxed W0 w.heap.size 66 (.slice A g.ports.length c):=by rw [<- hW0];exact (((Boxed.new w _ _).alloc _).alloc _).alloc _
 have b2:Boxed W0 (w.heap.size+1) 34 (.int .u32 (S:Int)):=by
  rw [<- hW0];have:=Boxed.new (w.alloc (.cells #[.slice A g.ports.length c] 66)) 34 (.int .u32 (S:Int));rw [World.size_alloc] at this;exact (this.alloc _).alloc _
 have b3:Boxed W0 (w.heap.size+1+1) 4 (.bool false):=by
  rw [<- hW0];have:=Boxed.new ((w.alloc (.cells #[.slice A g.ports.length c] 66)).alloc (.cells #[.int .u32 (S:Int)] 34)) 4 (.bool false);rw [World.size_alloc,World.size_alloc] at this;exact this.alloc _
 have b4:Boxed W0 (w.heap.size+1+1+1) 34 (.int .u32 (S:Int)):=by
  rw [<- hW0];have:=Boxed.new (((w.alloc (.cells #[.slice A g.ports.length c] 66)).alloc (.cells #[.int .u32 (S:Int)] 34)).alloc (.cells #[.bool false] 4)) 34 (.int .u32 (S:Int));rw [World.size_alloc,World.size_alloc,World.size_alloc] at this;exact this
 have hb0:Bel w W0:=by rw [<- hW0];exact ((((Bel.refl w).alloc _).alloc _).alloc _).alloc _
 have hz0:W0.heap.size=w.heap.size+1+1+1+1:=by rw [<- hW0];simp
 rw [hW0];clear hW0;refine (wpIn_wide (n:=5)).1 ?_
 refine aJ5 (n:=5) rfl (by decide) (gf:=119) (lb:=#[.pointer (some ⟨w.heap.size+1+1+1,0,none⟩)]) (by simp [go_sem]) trivial (enters_of func119 (by kernel_rfl) rfl)
  (aMp 4 _ S W0 (by decide) hS b4 (HT.out _ hb0)) (by rintro k rfl;omega) (by rintro k rfl;exact (HT.out _ hb0).1) (fun _=>rfl) (fun k=>k=w.heap.size+1+1+1∨k=W0.heap.size∨k=W0.heap.size+1) (fun k=>Iff.rfl)
  (fun pre W=>Boxed W w.heap.size 66 (.slice A g.ports.length c)/\Boxed W (w.heap.size+1) 34 (.int .u32 (S:Int))/\Boxed W (w.heap.size+1+1) 4 (.bool false)/\(∀ v∈pre,aMo g v&&&S=0)/\Bel w W)
  (fun c pre W=>c = .ret/\Boxed W (w.heap.size+1+1) 4 (.bool false)/\aHh g S=false/\Bel w W)
  (fun s A B ⟨h1,h2,h3,h4,h5⟩ hg=>⟨hg.boxed h1 (by omega),hg.boxed h2 (by omega),hg.boxed h3 (by omega),h4,hg.belE h5 (by omega)⟩)
  (fun c s A B ⟨h1,h2,h3,h4⟩ hg=>⟨h1,hg.boxed h2 (by omega),h3,hg.belE h4 (by omega)⟩)
  ⟨b1,b2,b3,by simp,hb0⟩
  (fun x a' W=>a'={ tmps:=#[.slice A g.ports.length c,.int .u32 (S:Int),.pointer (some ⟨w.heap.size,0,none⟩),.pointer (some ⟨w.heap.size+1,0,none⟩),.pointer (some ⟨w.heap.size+1+1,0,none⟩),.int .i64 (x:Int),.int .u32 (S:Int),.func (.func 119) #[] #[.pointer (some ⟨w.heap.size+1+1+1,0,none⟩)],.int .i64 (x:Int),undef,undef,undef,undef,undef,undef,undef],defers:=[] })
  (fun _ _ _ _ h _=>h) ?assign ?body ?done ?stop
 case assign =>
  intro pre x W K hp hI hl hK
  gi_wp2
  exact hK _ _ (aCd.refl _ _) hI rfl
 case body =>
  rintro pre x a' W hp ⟨h1,h2,h3,h4,h5⟩ rfl hl ⟨r,hr⟩;obtain ⟨c1,f1,l1⟩:=aBv h1;obtain ⟨c2,f2,l2⟩:=aBv h2;obtain ⟨c3,f3,l3⟩:=aBv h3;have hx:x∈aAf S:=hp.subset (by simp)
  have hxn:=hw x (aDl.1 hx).2;obtain ⟨b,o,e,hb,hc⟩:=(HN.out _ h5).at_ hxn;subst e;have q:=aCm (aSk hg x) hS;have hdx:decide (x<g.ports.length)=true:=by simpa using hxn
  generalize hnv:aMo g x=N at *;refine wpIn_block (wpIn_seq ?_)
  refine aA8.startIn (fun w'=>w'.cell? ⟨w.heap.size,0,none⟩=some (.slice (some ⟨b,o,none⟩) g.ports.length c)/\w'.cell? ⟨w.heap.size+1,0,none⟩=some (.int .u32 (S:Int))/\w'.cell? ⟨b,o+x,none⟩=some (.int .u32 (N:Int))/\w.heap.size<w'.heap.size/\w.heap.size+1<w'.heap.size/\b<w'.heap.size) 6 (by kernel_rfl) (by kernel_rfl) (by rintro ⟨_,_,h⟩;exact h) ?_
  have hHeld:W.drew.cell? ⟨w.heap.size,0,none⟩=some (.slice (some ⟨b,o,none⟩) g.ports.length c)/\W.drew.cell? ⟨w.heap.size+1,0,none⟩=some (.int .u32 (S:Int))/\W.drew.cell? ⟨b,o+x,none⟩=some (.int .u32 (N:Int))/\w.heap.size<W.drew.heap.size/\w.heap.size+1<W.drew.heap.size/\b<W.drew.heap.size:=⟨c1,c2,hc,l1,l2,hb⟩
  by_cases hz:N&&&S=0
  .rw [hz] at q
   (refine aA8.t (v:=?_) 0 9 rfl rfl (by kernel_rfl) (fun _ _ _ h=>h) hHeld (Or.inl ⟨by rfl,?_⟩) ?_;rotate_left 1;focus (intro w' hSw;(try dsimp only at hSw);go_simp;(try with_reducible rfl);done))
   (refine aA8.t (v:=?_) 1 10 rfl rfl (by kernel_rfl) (fun _ _ _ h=>h) hHeld (Or.inl ⟨by rfl,?_⟩) ?_;rotate_left 1;focus (intro w' hSw;(try dsimp only at hSw);go_simp;(try with_reducible rfl);done))
   (refine aA8.t (v:=?_) 2 11 rfl rfl (by kernel_rfl) (fun _ _ _ h=>h) hHeld (Or.inl ⟨by rfl,?_⟩) ?_;rotate_left 1;focus (intro w' hSw;(try dsimp only at hSw);go_simp;(try with_reducible rfl);done))
   (refine aA8.t (v:=?_) 3 12 rfl rfl (by kernel_rfl) (fun _ _ _ h=>h) hHeld (Or.inl ⟨by rfl,?_⟩) ?_;rotate_left 1;focus (intro w' hSw;(try dsimp only at hSw);go_simp;(try with_reducible rfl);done))
   (refine aA8.t (v:=?_) 4 13 rfl rfl (by kernel_rfl) (fun _ _ _ h=>h) hHeld (Or.inl ⟨by rfl,?_⟩) ?_;rotate_left 1;focus (intro w' hSw;(try dsimp only at hSw);go_simp;(try with_reducible rfl);done))
   (refine aA8.t (v:=?_) 5 14 rfl rfl (by kernel_rfl) (fun _ _ _ h=>h) hHeld (Or.inl ⟨by rfl,?_⟩) ?_;rotate_left 1;focus (intro w' hSw;(try dsimp only at hSw);go_simp;(try with_reducible rfl);done))
   refine aA8.one (i:=6) (by kernel_rfl) rfl (fun K hK=>?_)
   go_simp
   refine hK.out _ _ (fun h=>absurd rfl h) ?_
   refine aA8.done (by kernel_rfl) ?_ _
   (try simp only [Act.put,List.setIfInBounds_toArray,List.set_cons_zero,List.set_cons_succ])
   change Code.wpIn _ _ _ _ _ _ _
   gi_wp2
   exact ⟨aCd.of_bel ((Bel.refl W).drew),h1,h2,h3,fun v hv=>by
    rcases List.mem_append.1 hv with hv | hv
    .exact h4 v hv
    .obtain rfl:v=x:=by simpa using hv
     rw [hnv];exact hz,h5.drew⟩
  .have hq:(((N&&&S:Nat):Int) != 0)=true:=by simpa using hz
   have hpf:aHh g S=false:=by
    rw [Bool.eq_false_iff];intro hp
    have:=(aKa hS).1 hp x (aDl.1 hx).2;rw [hnv] at this;exact hz this
   generalize N&&&S=M at *
   (refine aA8.t (v:=?_) 0 9 rfl rfl (by kernel_rfl) (fun _ _ _ h=>h) hHeld (Or.inl ⟨by rfl,?_⟩) ?_;rotate_left 1;focus (intro w' hSw;(try dsimp only at hSw);go_simp;(try with_reducible rfl);done))
   (refine aA8.t (v:=?_) 1 10 rfl rfl (by kernel_rfl) (fun _ _ _ h=>h) hHeld (Or.inl ⟨by rfl,?_⟩) ?_;rotate_left 1;focus (intro w' hSw;(try dsimp only at hSw);go_simp;(try with_reducible rfl);done))
   (refine aA8.t (v:=?_) 2 11 rfl rfl (by kernel_rfl) (fun _ _ _ h=>h) hHeld (Or.inl ⟨by rfl,?_⟩) ?_;rotate_left 1;focus (intro w' hSw;(try dsimp only at hSw);go_simp;(try with_reducible rfl);done))
   (refine aA8.t (v:=?_) 3 12 rfl rfl (by kernel_rfl) (fun _ _ _ h=>h) hHeld (Or.inl ⟨by rfl,?_⟩) ?_;rotate_left 1;focus (intro w' hSw;(try dsimp only at hSw);go_simp;(try with_reducible rfl);done))
   (refine aA8.t (v:=?_) 4 13 rfl rfl (by kernel_rfl) (fun _ _ _ h=>h) hHeld (Or.inl ⟨by rfl,?_⟩) ?_;rotate_left 1;focus (intro w' hSw;(try dsimp only at hSw);go_simp;(try with_reducible rfl);done))
   (refine aA8.t (v:=?_) 5 14 rfl rfl (by kernel_rfl) (fun _ _ _ h=>h) hHeld (Or.inl ⟨by rfl,?_⟩) ?_;rotate_left 1;focus (intro w' hSw;(try dsimp only at hSw);go_simp;(try with_reducible rfl);done))
   refine aA8.one (i:=6) (by kernel_rfl) rfl (fun K hK=>?_)
   go_simp
   refine hK.out _ _ (fun h=>absurd rfl h) ?_
   refine aA8.done (by kernel_rfl) ?_ _
   (try simp only [Act.put,List.setIfInBounds_toArray,List.set_cons_zero,List.set_cons_succ])
   change Code.wpIn _ _ _ _ _ _ _
   gi_wp2
   refine ⟨(aCd.of_bel ((Bel.refl W).drew)).trans (aCd.setCell _ _ _ ?_),rfl,Boxed.set _ (show Boxed W.drew _ _ _ from h3),hpf,h5.drew.setCell (by simp;omega) _⟩
   have:=hT.1;rintro ((h | h | h) | h) <;> simp at h <;> omega
 case done =>
  rintro W ⟨h1,h2,h3,h4,h5⟩ hK;obtain ⟨c3,f3,l3⟩:=aBv h3;have hpt:aHh g S=true:=(aKa hS).2 fun v hv=>h4 v (aDl.2 ⟨aJ9 hS hv,hv⟩);go_wp2;have h3':=h3.set (.bool true);refine aF6 (B:=w.heap.size) (aEy.push (aEy.nil _ _) (by omega) ((Below.heap_setCell _ _ _ _ (by simp;omega)).trans hK) (by simp)) ?_
  intro W' hA hs
  have hr:=hA.cellD h3'.cell;exact ⟨.bool true,by simp [results,Tryz.results109,go_sem,hr],aA2 hpt.symm,hA.bel (h5.setCell (by simp;omega) _)⟩
 case stop =>
  rintro c' pre W hp ⟨rfl,h3,hpf,h5⟩ hK;refine wpIn_wide.2 ?_
  go_wp2;refine aF6 (B:=w.heap.size) (aEy.push (aEy.nil _ _) (by omega) hK (by simp)) ?_
  intro W' hA hs
  have hr:=hA.cellD h3.cell;exact ⟨.bool false,by simp [results,Tryz.results109,go_sem,hr],aA2 hpf.symm,hA.bel h5⟩
end Go.Proofs.YtdcjnhoabbdanaaGreatDoor

namespace Go.Proofs.YtdcjnhoabbdanaaGreatDoor
theorem aW3 {g:Graph} (hg:aDa g=true) {S:Nat} (hS:S<4294967296):aNv g S=(aB6 S (aD7 g.ports.length fun _=>true)&&(aZo g S&&&S==0)):=by
 unfold aNv;rw [hg,Bool.true_and]
 congr 1
 rw [Bool.eq_iff_iff,List.all_eq_true,beq_iff_eq];constructor
 .intro h
  refine Nat.eq_of_testBit_eq fun v=>?_
  rw [Nat.testBit_and,Nat.zero_testBit];cases hb:S.testBit v with
  | false=>exact Bool.and_false _
  | true =>
   have:=h v (List.mem_range.2 (aJ9 hS hb));rw [hb] at this;simpa using this
 .intro h v _
  have:=congrArg (fun x=>x.testBit v) h;simp only [Nat.testBit_and,Nat.zero_testBit] at this
  rw [this];rfl
theorem aSc:∀ {bs:List (Int × Int)} {cs:List Int},inL bs cs↔cs.length=bs.length/\∀ i,(h1:i<cs.length)->(h2:i<bs.length)->bs[i].1<=cs[i]/\cs[i]<=bs[i].2
 | [],[]=>by simp [inL]
 | [],_ :: _=>by simp [inL]
 | _ :: _,[]=>by simp [inL]
 | b :: bs,c :: cs=>by
  have ih:=aSc (bs:=bs) (cs:=cs);constructor
  .rintro ⟨h1,h2,h3⟩
   obtain ⟨h4,h5⟩:=ih.1 h3;refine ⟨by simp [h4],fun i a1 a2=>?_⟩
   cases i with
   | zero=>exact ⟨h1,h2⟩
   | succ i=>exact h5 i (by simpa using a1) (by simpa using a2)
  .rintro ⟨h1,h2⟩
   have h0:=h2 0 (by simp) (by simp)
   refine ⟨h0.1,h0.2,ih.2 ⟨by simpa using h1,fun i a1 a2=>?_⟩⟩
   exact h2 (i+1) (by simpa using a1) (by simpa using a2)
theorem aSd:∀ {T:List (List (Int × Int))} {C:aA5},inN T C↔C.length=T.length/\∀ v,(h1:v<C.length)->(h2:v<T.length)->inL T[v] C[v]
 | [],[]=>by simp [inN]
 | [],_ :: _=>by simp [inN]
 | _ :: _,[]=>by simp [inN]
 | t :: T,c :: C=>by
  have ih:=aSd (T:=T) (C:=C);constructor
  .rintro ⟨h1,h3⟩
   obtain ⟨h4,h5⟩:=ih.1 h3;refine ⟨by simp [h4],fun i a1 a2=>?_⟩
   cases i with
   | zero=>exact h1
   | succ i=>exact h5 i (by simpa using a1) (by simpa using a2)
  .rintro ⟨h1,h2⟩
   have h0:=h2 0 (by simp) (by simp)
   refine ⟨h0,ih.2 ⟨by simpa using h1,fun i a1 a2=>?_⟩⟩
   exact h2 (i+1) (by simpa using a1) (by simpa using a2)
theorem aZh {T:List (List (Int × Int))} {C:aA5}:aGj T C=true↔inN T C:=by
 rw [aC4,aSd];constructor
 .rintro ⟨h1,h2⟩;exact ⟨h1,fun v a b=>aSc.2 (aC3.1 (h2 v a b))⟩
 .rintro ⟨h1,h2⟩;exact ⟨h1,fun v a b=>aC3.2 (aSc.1 (h2 v a b))⟩
theorem bAa {p:Prg} {g:Graph} {c:aA5} (hm:aCx p g c=0):inN (aAv p g) c:=aZh.1 (aB9 hm).2
theorem aM1 {S n:Nat} (hn:n<=32) (hS:S<2 ^ n):(aAf S).length<=n:=by
 rw [aS5 hn hS];exact Nat.le_trans (List.length_filter_le _ _) (by simp)
theorem aFm {g:Graph} {kind:Int} {E S:Nat} (h:aBp g kind E S=true):S≠0/\aB6 S E=true:=by
 unfold aBp at h;split at h
 .cases h
 split at h
 .cases h
 .rename_i h1 h2
  exact ⟨h1,by simpa using h2⟩
theorem aMv {S E:Nat} (hS:S<4294967296) (hE:E<4294967296):S&&&E=S↔aB6 S E=true:=by
 rw [aCb];constructor
 .intro h v _ hv
  have:=Nat.testBit_and S E v;rw [h,hv,Bool.true_and] at this;exact this.symm
 .intro h
  refine aYd (Nat.and_lt_two_pow (n:=32) S hE) hS fun v hv=>?_
  rw [Nat.testBit_and];cases hb:S.testBit v with
  | false=>rfl
  | true=>rw [h v hv hb];rfl
theorem aHy {E n:Nat} (hn:n<=32) (hE:E<2 ^ n):aB6 E (aD7 n fun _=>true)=true:=by
 have h32:E<4294967296:=Nat.lt_of_lt_of_le hE (Nat.pow_le_pow_right (n:=2) (by decide) hn)
 rw [aOg hn h32];intro v hv
 rcases Nat.lt_or_ge v n with h | h
 .exact h
 .have e:2 ^ n<=2 ^ v:=Nat.pow_le_pow_right (by decide) h
  rw [Nat.testBit_lt_two_pow (Nat.lt_of_lt_of_le hE e)] at hv;cases hv
theorem aRn {A B C:Nat} (h:aB6 A B=true) (k:aB6 B C=true):aB6 A C=true:=by
 rw [aCb] at *;exact fun v hv hA=>k v hv (h v hv hA)
def aCo (g:Graph) (v s:Nat):List Value:=(List.range g.ports.length).map fun u=>Value.int .u32 ((if u<v then aMo g u else if u=v then s else 0:Nat):Int)
theorem aQk (g:Graph):aCo g 0 0=List.replicate g.ports.length (.int .u32 0):=by
 apply List.ext_getElem
 .simp [aCo]
 .intro i h1 h2
  simp [aCo]
theorem aSl (g:Graph) {v:Nat} (_:v<g.ports.length) (s s':Nat):(aCo g v s).set v (.int .u32 (s':Int))=aCo g v s':=by
 apply List.ext_getElem
 .simp [aCo]
 .intro i h1 h2
  rw [List.getElem_set]
  by_cases h:v=i
  .subst h;rw [if_pos rfl];simp [aCo]
  .rw [if_neg h]
   simp only [aCo,List.getElem_map,List.getElem_range]
   by_cases hi:i<v
   .rw [if_pos hi,if_pos hi]
   .rw [if_neg hi,if_neg hi,if_neg (fun e=>h e.symm),if_neg (fun e=>h e.symm)]
theorem aQj (g:Graph) (v:Nat):aCo g v (aMo g v)=aCo g (v+1) 0:=by
 unfold aCo;refine List.map_congr_left fun u _=>?_
 by_cases h:u<v
 .rw [if_pos h,if_pos (by omega)]
 .rw [if_neg h]
  by_cases h2:u=v
  .subst h2;rw [if_pos rfl,if_pos (by omega)]
  .rw [if_neg h2,if_neg (by omega)]
   split <;> rfl
theorem aUn (g:Graph) {v:Nat} (hv:v<g.ports.length) (s:Nat):(aCo g v s)[v]?=some (.int .u32 (s:Int)):=by
 unfold aCo;rw [List.getElem?_map,List.getElem?_range hv];simp
theorem aQi (g:Graph) (s:Nat) {u:Nat} (hu:u<g.ports.length):(aCo g g.ports.length s)[u]?=some (.int .u32 (aMo g u:Int)):=by
 unfold aCo;rw [List.getElem?_map,List.getElem?_range hu];simp [hu]
theorem aWh {ls:List Link} {i:Nat} (hi:i<ls.length):aRp (ls.take (i+1))=aRp (ls.take i)|||2 ^ ls[i].to.toNat:=by
 rw [List.take_succ_eq_append_getElem hi,aWg]
theorem aV4 {p:Prg} {g:Graph} {v:Nat} (hv:v<(aAv p g).length):((aAv p g)[v]).length=p.vars.length:=by simp [aAv,aI2]
theorem aYs {t:List (Int × Int)} {j:Nat} (hj:j<t.length):aRc (t.drop j)=(t[j].2-t[j].1+1)*aRc (t.drop (j+1)):=by
 rw [List.drop_eq_getElem_cons hj];rfl
theorem aYt {T:List (List (Int × Int))} {v:Nat} (hv:v<T.length):aNn (T.drop v)=aRc T[v]*aNn (T.drop (v+1)):=by
 rw [List.drop_eq_getElem_cons hv];rfl
def Prod (T:List (List (Int × Int))) (v j:Nat) (r:Int):Prop:=1<=r/\r<=32768/\r*(aRc ((T.getD v []).drop j)*aNn (T.drop (v+1)))=aNn T
def aVc (T:List (List (Int × Int))) (v:Nat) (r:Int):Prop:=1<=r/\r<=32768/\r*aNn (T.drop v)=aNn T
theorem aVc.start (T:List (List (Int × Int))):aVc T 0 1:=⟨by decide,by decide,by rw [List.drop_zero,Int.one_mul]⟩
theorem aVc.row {T:List (List (Int × Int))} {v:Nat} {r:Int} (h:aVc T v r) (hv:v<T.length):Prod T v 0 r:=by
 obtain ⟨h1,h2,h3⟩:=h;refine ⟨h1,h2,?_⟩
 rw [List.getD_eq_getElem?_getD,List.getElem?_eq_getElem hv,Option.getD_some,List.drop_zero,<- aYt hv];exact h3
theorem Prod.done {T:List (List (Int × Int))} {v:Nat} {r:Int} (hv:v<T.length) (h:Prod T v T[v].length r):aVc T (v+1) r:=by
 obtain ⟨h1,h2,h3⟩:=h;refine ⟨h1,h2,?_⟩
 rw [List.getD_eq_getElem?_getD,List.getElem?_eq_getElem hv,Option.getD_some,List.drop_length] at h3;rw [<- h3];show _=r*(1*_);rw [Int.one_mul]
theorem Prod.step {T:List (List (Int × Int))} {v j:Nat} {r:Int} (ho:okN T) (hv:v<T.length) (hj:j<T[v].length) (h:Prod T v j r) :
  (32768<r*(T[v][j].2-T[v][j].1+1)->32768<aNn T)/\(r*(T[v][j].2-T[v][j].1+1)<=32768->Prod T v (j+1) (r*(T[v][j].2-T[v][j].1+1))):=by
 obtain ⟨h1,h2,h3⟩:=h;have e:T.getD v []=T[v]:=by rw [List.getD_eq_getElem?_getD,List.getElem?_eq_getElem hv,Option.getD_some]
 rw [e,aYs hj,Int.mul_assoc,<- Int.mul_assoc r] at h3;have hok:okL T[v]:=ho _ (List.getElem_mem hv);have hb:=hok _ (List.getElem_mem hj);have hr:r<=r*(T[v][j].2-T[v][j].1+1):=aZ4 h1 (by omega)
 have h4:=aN9 (aYh hok (j+1));have h5:=aRd (aYi ho (v+1));have h6:=Int.mul_pos h4 h5;have h7:=aZ4 (r:=r*(T[v][j].2-T[v][j].1+1)) (s:=aRc (T[v].drop (j+1))*aNn (T.drop (v+1))) (by omega) (by omega)
 refine ⟨fun h=>by omega,fun h=>⟨by omega,h,by rw [e];exact h3⟩⟩
open Go.RowKit
theorem aEt {p:Prg} {g:Graph} {c:aA5} (hm:aCx p g c=0) (hL:aAs p=true):aBo c=true:=by
 have hf:=(aB9 hm).1;have hg:=(aAq hf).2.1;have hcl:=aFg hm;have hle:=hg.le;have hv10:=(aB3 hL).2.1;unfold aBo;rw [Bool.and_eq_true,decide_eq_true_eq,List.all_eq_true];refine ⟨by omega,fun r hr=>?_⟩
 obtain ⟨v,hv,rfl⟩:=List.getElem_of_mem hr;have hvt:v<(aAv p g).length:=by rw [aC9,hg.ids,<- hcl];exact hv
 have:=aNt ((aSd.1 (bAa hm)).2 v hv hvt);rw [aV4 hvt] at this;simp;omega
end Go.Proofs.YtdcjnhoabbdanaaGreatDoor

