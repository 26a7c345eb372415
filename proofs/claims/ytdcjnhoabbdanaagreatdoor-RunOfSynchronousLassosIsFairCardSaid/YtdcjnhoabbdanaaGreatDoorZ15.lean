/- Merged. -/
import Derived.RangeFuncNested
import Derived.RangeFuncBound
import Derived.RangeFuncCalls
import Derived.RangeFuncLeaves
import Derived.Shelf.Abstract
import Derived.Shelf.RegionOpen
import Derived.WalkKit
import Derived.OwnWalkIn
import Derived.TacticsInMore
import Derived.LoopNIn
import Derived.LoopIn
import Derived.RangeFuncBox
import Derived.Test.YtdcjnhoabbdanaaGreatDoorZ12
import Derived.JoinedOf
import Derived.Test.YtdcjnhoabbdanaaGreatDoorTie
import Derived.Test.YtdcjnhoabbdanaaGreatDoorCards
import Derived.SevenTiedAt
set_option linter.unusedSimpArgs false
set_option linter.unnecessarySimpa false
set_option linter.unusedVariables false
set_option maxRecDepth 100000
set_option maxHeartbeats 2000000
open Go.Proofs.Tryz

namespace Go.Proofs.YtdcjnhoabbdanaaGreatDoor
open Go.RowKit
attribute [local go_sem] Oper.semAt_some
theorem aH9 (S:Nat) (w:World) :
  Calls prog 96 #[.int .u32 (S:Int)] w fun e w'=>e = .returned (.func (.func 119) #[] #[.pointer (some ⟨w.heap.size,0,none⟩)])/\w'=w.alloc (.cells #[.int .u32 (S:Int)] 34):=by
 go_enter func96,ntmps96;go_wp2;go_ret;exact ⟨rfl,rfl⟩
theorem aCt.same {A B:World} (h:aCt A) (hs:A.heap.size<=B.heap.size) (hb:B.heap[0]?=A.heap[0]?):aCt B :=
 ⟨Nat.lt_of_lt_of_le h.1 hs,fun i hi=>(World.cell?_of_block hb).trans (h.2 i hi)⟩
def bC8 (w:World) (B:Nat):Nat:=match w.cell? ⟨B,0,none⟩ with | some (.int _ x)=>x.toNat | _=>0
theorem aNw (n:Nat) (B S:Nat) (w:World) (hn:1<=n) (hS:S<4294967296) (hB:Boxed w B 34 (.int .u32 (S:Int))) (hT:aCt w) :
  bC7 Fence.wide n prog 119 #[.pointer (some ⟨B,0,none⟩)] (fun v:Nat=>#[.int .i64 (v:Int)]) (fun k=>k=B) (fun k=>k=0) (aAl S) w:=by
 intro l J Jx W hW hJ hJx hY h0
 refine callsIn_of_wp func119 rfl trivial ?_ rfl
 simp only [ntmps119,List.size_toArray,List.length_cons,List.length_nil,Nat.reduceAdd,Nat.reduceSub,Array.replicate_succ,Array.replicate_zero,List.push_toArray,List.append_toArray,List.nil_append,List.cons_append]
 gi_wp2
 gi_loopw [] (fun wr=>∃ (pre:List Nat) (cur:Nat),Hid (Boxed wr B 34 (.int .u32 (cur:Int)))/\Hid (aCt wr)/\Hid (pre++aAl cur=aAl S)/\Hid (cur<4294967296)/\Hid (J pre wr)) (fun wr=>bC8 wr B)
 case atStart=>exact ⟨[],S,by show Boxed _ _ _ _;exact (hW.block B hB.lt).trans hB,hT.keep hW,by show []++_=_;rfl,hS,h0⟩
 case round =>
  clear h0 hS hB hT;obtain ⟨pre,cur,HX,HT,HP,HC,HJ⟩:=hrel;have hc:=HX.out.cell;have hf:=HX.out.frozen;have hl:=HX.out.lt
  by_cases hz:cur=0
  .have hb:((cur:Int) != 0)=false:=by simp;exact hz
   have HZ:=aA0 hz;clear hz
   gi_wp2
   go_end0
   have h:=HP.out;rw [HZ.out,aN4,List.append_nil] at h;exact ⟨⟨_,rfl⟩,.inl (by rw [<- h];exact HJ.out)⟩
  .have hb:((cur:Int) != 0)=true:=by simp;exact hz
   obtain ⟨k,m,e1,hk,_,e2,e3⟩:=aKu HC.out hz
   have q:bits .and .u32 (cur:Int) (((cur:Int)-1) % 4294967296)=((2 ^ k*(2*m):Nat):Int):=by
    rw [show ((cur:Int)-1) % 4294967296=((cur-1:Nat):Int) by have:=HC.out;omega,aCv HC.out (by have:=HC.out;omega),e2]
   have hlt:2 ^ k*(2*m)<cur:=by
    have:2 ^ k*(2*m)+2 ^ k=cur:=by rw [e1,Nat.mul_add,Nat.mul_one]
    have:=Nat.two_pow_pos k;omega
   have HQ:Hid (pre++[k]++aAl (2 ^ k*(2*m))=aAl S):=by
    have:=HP.out;rw [e3] at this;show _=_
    rw [List.append_assoc];exact this
   have hpre:pre++[k] <+: aAl S:=⟨_,HQ.out⟩;obtain ⟨fn,tmps,assign,body,hy,hR⟩:=hY pre k wr hpre HJ.out;generalize 2 ^ k*(2*m)=nx at q hlt HQ;have HE1:=aA0 e1;have HLT:=aA0 hlt;have HZ:=aA0 hz;clear e1 e2 e3 hz hlt hpre hk
   gi_wp2_with (refine ⟨trivial,?_⟩;gi_at_call 120;refine (callsIn_wide.2 (bCj cur k m _ HT.out HC.out HE1.out)).mono ?_;rintro e w' ⟨rfl,rfl⟩)
   refine hR.mono ?_
   rintro e w' (⟨rfl,hJ',hs⟩ | ⟨rfl,hJx'⟩)
   .have hbx:Boxed w' B 34 (.int .u32 (cur:Int)):=(hs.2 B HX.out.lt (.inl rfl)).trans HX.out
    have HT':Hid (aCt w'):=HT.out.same hs.1 (hs.2 _ HT.out.1 (.inr rfl));have hc':=hbx.cell;have hf':=hbx.frozen;have hl':=hbx.lt;have HX':=aA0 hbx;have HJ':=aA0 hJ';clear hbx hJ' hs hc hf hl
    gi_wp2
    go_roundw
    case rel =>
     refine ⟨pre++[k],nx,HX'.out.set _,HT'.out.same (by simp) (Below.heap_setCell _ _ _ _ ?_),HQ.out,by have:=HC.out;have:=HLT.out;show _<_;omega,hJ _ _ _ HJ'.out (Agr.setCell _ _ _ rfl)⟩
     have h1:=HX'.out;have h2:=HT'.out.2 0 (by decide)
     intro e
     simp only at e
     subst e;rw [h1.cell] at h2;cases h2
    case measure =>
     have e1:bC8 wr B=cur:=by unfold bC8;rw [HX.out.cell];simp
     have e2:∀ W:World,Boxed W B 34 (.int .u32 (nx:Int))->bC8 W B=nx:=fun W h=>by unfold bC8;rw [h.cell];simp
     rw [e1,e2 _ (HX'.out.set _)];exact HLT.out
   .gi_wp2
    refine bodyPost_ret (results_none rfl _ _ _) rfl ?_
    exact ⟨⟨_,rfl⟩,.inr ⟨pre++[k],⟨_,HQ.out⟩,hJx'⟩⟩
end Go.Proofs.YtdcjnhoabbdanaaGreatDoor

namespace Go.Proofs.YtdcjnhoabbdanaaGreatDoor
def aGh (g:Graph) (c:aA6) (v:Nat) (e:List Term):Bool:=aAt g c v (-1) (aAv e) != 0
def aCe (rs:List Rule) (g:Graph) (c:aA6) (v:Nat):Int:=match rs.findIdx? (fun r=>aGh g c v r.guard) with | some i=>(i:Int) | none => -1
theorem aLq {rs:List Rule} {g:Graph} {c:aA6} {v j:Nat} (h:j<rs.length) (ha:(rs.take j).all (fun r => !(aGh g c v r.guard))=true) (hj:aGh g c v rs[j].guard=true):aCe rs g c v=(j:Int):=by
 unfold aCe
 have:rs.findIdx? (fun r=>aGh g c v r.guard)=some j:=by
  rw [List.findIdx?_eq_some_iff_getElem];refine ⟨h,hj,fun k hk=>?_⟩
  have:=List.all_eq_true.1 ha rs[k] (by rw [List.mem_take_iff_getElem];exact ⟨k,by omega,rfl⟩)
  simpa using this
 rw [this]
theorem aNd {rs:List Rule} {g:Graph} {c:aA6} {v:Nat} (ha:rs.all (fun r => !(aGh g c v r.guard))=true):aCe rs g c v = -1:=by
 unfold aCe
 have:rs.findIdx? (fun r=>aGh g c v r.guard)=none:=by
  rw [List.findIdx?_eq_none_iff];intro x hx
  have:=List.all_eq_true.1 ha x hx;simpa using this
 rw [this]
theorem aLp (rs:List Rule) (g:Graph) (c:aA6) (v:Nat) :
  (aCe rs g c v = -1/\∀ r∈rs,aGh g c v r.guard=false) ∨
  ∃ k:Nat,∃ hk:k<rs.length,aCe rs g c v=(k:Int)/\aGh g c v rs[k].guard=true/\∀ i (hi:i<k),aGh g c v rs[i].guard=false:=by
 unfold aCe;cases hf:rs.findIdx? (fun r=>aGh g c v r.guard) with
 | none =>
  left
  rw [List.findIdx?_eq_none_iff] at hf;exact ⟨rfl,fun r hr=>by simpa using hf r hr⟩
 | some k =>
  right
  rw [List.findIdx?_eq_some_iff_getElem] at hf;obtain ⟨hk,h1,h2⟩:=hf;exact ⟨k,hk,rfl,h1,fun i hi=>by simpa using h2 i hi⟩
theorem aLr (rs:List Rule) (g:Graph) (c:aA6) (v:Nat) : -1<=aCe rs g c v/\aCe rs g c v<rs.length:=by
 rcases aLp rs g c v with ⟨h,_⟩ | ⟨k,hk,h,_⟩ <;> omega
def aFp (kind:Int) (b:Int × Int) (x:Int):Int:=if b.1<=x/\x<=b.2 then x else if kind=3 then -1 else if x<b.1 then b.1 else b.2
def aWv (p:Prg) (x:Int):Var:=p.vars.getD x.toNat default
def aIk (p:Prg) (g:Graph) (c:aA6) (v:Nat) (t:SetT):Int:=aFp (aWv p t.var).kind (aAo (aWv p t.var) g v) (aAt g c v (-1) (aAv t.value))
def aC7 (p:Prg) (g:Graph) (c:aA6) (v:Nat) (l:List SetT):List Int:=l.foldl (fun s t=>s.set t.var.toNat (aIk p g c v t)) (c.getD v [])
def aYo (p:Prg) (k:Int):Rule:=p.rules.getD k.toNat default
def aLb (p:Prg) (g:Graph) (c:aA6) (v:Nat):List Int:=aC7 p g c v (aYo p (aCe p.rules g c v)).sets
def aAk (p:Prg) (g:Graph) (c:aA6):Nat:=aBw c.length fun v=>decide (0<=aCe p.rules g c v)
def aBi (p:Prg) (g:Graph) (c:aA6) (S:Nat):aA6:=(List.range c.length).map fun v=>if S.testBit v then aLb p g c v else c.getD v []
def aMi (p:Prg) (g:Graph) (c:aA6):Nat:=if aD1 p g c≠0 then 0 else aAk p g c
def aYw (p:Prg) (g:Graph) (c:aA6) (S:Nat):aA6 × Int :=
 if aD1 p g c≠0 then ([],aD1 p g c) else if S=0∨aBe S (aAk p g c)=false then ([],11) else (aBi p g c S,0)
theorem aKg (p:Prg) (g:Graph) (c:aA6) (v:Nat) (l:List SetT):(aC7 p g c v l).length=(c.getD v []).length:=by
 unfold aC7
 suffices ∀ s:List Int,(l.foldl (fun s t=>s.set t.var.toNat (aIk p g c v t)) s).length=s.length from this _
 induction l with
 | nil=>intro s;rfl
 | cons t l ih=>intro s;rw [List.foldl_cons,ih];simp
theorem aNu (p:Prg) (g:Graph) (c:aA6) (v:Nat) (l:List SetT) (j:Nat) (h:j<l.length):aC7 p g c v (l.take (j+1))=(aC7 p g c v (l.take j)).set l[j].var.toNat (aIk p g c v l[j]):=by
 unfold aC7;rw [List.take_succ_eq_append_getElem h,List.foldl_append];rfl
theorem aNe {p:Prg} {g:Graph} (hf:aHs p g=0) {x:Var} (hx:x∈p.vars) (v:Nat):(aAo x g v).1<=(aAo x g v).2/\(x.kind=3->(aAo x g v).1 = -1):=by
 obtain ⟨h1,h2,h3⟩:=aAp hf;have h4:=List.all_eq_true.1 h3 x hx;have h5:=aEa (List.all_eq_true.1 (aBl h1).1 x hx);unfold aH7 at h4;have h4:=of_decide_eq_true h4;unfold aAo at h4 ⊢
 rcases h5 with h | h | h
 .rw [if_pos h.1];simp;omega
 .rw [if_neg (by omega),if_pos h.1];simp;omega
 .have hk:=h.1
  rw [if_neg (by omega),if_neg (by omega)] at h4 ⊢
  dsimp only at h4 ⊢;omega
theorem aRb {kind:Int} {b:Int × Int} (h:b.1<=b.2) (hk:kind=3->b.1 = -1) (x:Int):b.1<=aFp kind b x/\aFp kind b x<=b.2:=by
 unfold aFp;split
 .assumption
 split
 .have:=hk (by assumption);omega
 split <;> omega
theorem aVo {kind:Int} {b:Int × Int} (h:b.1<=b.2) (x:Int):aFp kind b x=if kind=3/\¬ (b.1<=x/\x<=b.2) then -1 else min (max x b.1) b.2:=by
 unfold aFp
 by_cases h1:b.1<=x/\x<=b.2
 .rw [if_pos h1,if_neg (by omega)];omega
 .rw [if_neg h1]
  by_cases h2:kind=3
  .rw [if_pos h2,if_pos ⟨h2,h1⟩]
  .rw [if_neg h2,if_neg (show ¬ (kind=3/\¬ (b.1<=x/\x<=b.2)) from fun h=>h2 h.1)]
   by_cases h3:x<b.1
   .rw [if_pos h3];omega
   .rw [if_neg h3];omega
theorem aR1 {p:Prg} (hc:aBr p=0) {r:Rule} (hr:r∈p.rules) {s:SetT} (hs:s∈r.sets):(aAv s.value).ok/\(aAv s.value).terms=s.value/\(∀ t∈s.value,aG5 t p.vars.length=true)/\aB5 false (aAv s.value)/\0<=s.var/\s.var<=(p.vars.length:Int)-1:=by
 obtain ⟨h1,_,h3,_,_,h6,h7⟩:=aBl hc;obtain ⟨hv,hval⟩:=(h6 r hr).sets s hs;obtain ⟨t1,t2,_,t4,_,_⟩:=aF7 hval;refine ⟨t1,t2,t4,aP9 (kinds:=aBo p) (b:=false) ?_,hv.1,hv.2⟩
 have h8:=h7 r hr;unfold aC5 at h8;simp only [Bool.and_eq_true,List.all_eq_true,beq_iff_eq] at h8
 rw [h8.2 s hs];obtain ⟨x,hx⟩:=Int.eq_ofNat_of_zero_le hv.1;rw [hx,Int.toNat_natCast,aA8 (by rw [aDl];omega)]
 have:=aNl h1;have hk:=List.all_eq_true.1 this _ (List.getElem_mem (show x<(aBo p).length by rw [aDl];omega))
 unfold aE7 at hk;simp at hk
 omega
theorem aMx {p:Prg} {g:Graph} {c:aA6} (hm:aD1 p g c=0) {v:Nat} (hv:v<c.length):aEk (aIx p g v) (c.getD v [])=true:=by
 obtain ⟨_,h2⟩:=aB8 hm;obtain ⟨h3,h4⟩:=aCd.1 h2;have:=h4 v hv (by omega)
 rw [aF6] at this
 rwa [aA8 hv]
theorem aRt {p:Prg} {g:Graph} {c d:aA6} (hm:aD1 p g c=0) (hl:d.length=c.length) (h:∀ v,v<d.length->aEk (aIx p g v) (d.getD v [])=true):aD1 p g d=0:=by
 obtain ⟨h1,h2⟩:=aB8 hm
 have h3:aH5 (aAz p g) d=true:=by
  rw [aCd];refine ⟨by rw [hl];exact (aCd.1 h2).1,fun v a b=>?_⟩
  rw [aF6];have:=h v a
  rwa [aA8 a] at this
 unfold aD1;rw [if_neg (by simpa using h1),h3];simp
theorem aDg {p:Prg} {g:Graph} {c:aA6} (hm:aD1 p g c=0):c.length=g.ports.length:=by
 obtain ⟨h1,h2⟩:=aB8 hm;rw [(aCd.1 h2).1,aCj,(aAp h1).2.1.ids]
theorem aYm {p:Prg} {g:Graph} {c:aA6} (hm:aD1 p g c=0) {v:Nat} (hv:v<c.length):(c.getD v []).length=p.vars.length:=by
 rw [(aCc.1 (aMx hm hv)).1,aC4]
theorem bAt {p:Prg} {x:Int} (h0:0<=x) (h1:x<=(p.vars.length:Int)-1):∃ i:Nat,∃ hi:i<p.vars.length,x=(i:Int)/\x.toNat=i/\aWv p x=p.vars[i]:=by
 obtain ⟨i,rfl⟩:=Int.eq_ofNat_of_zero_le h0;exact ⟨i,by omega,rfl,Int.toNat_natCast i,by unfold aWv;rw [Int.toNat_natCast];exact aA8 (by omega)⟩
theorem aTx {p:Prg} {g:Graph} {c:aA6} (hm:aD1 p g c=0) {v:Nat} (hv:v<c.length) {l:List SetT} (hl:∀ s∈l,0<=s.var/\s.var<=(p.vars.length:Int)-1):aEk (aIx p g v) (aC7 p g c v l)=true:=by
 have hf:=(aB8 hm).1;unfold aC7
 suffices ∀ s:List Int,aEk (aIx p g v) s=true->aEk (aIx p g v) (l.foldl (fun s t=>s.set t.var.toNat (aIk p g c v t)) s)=true from this _ (aMx hm hv)
 induction l with
 | nil=>intro s h;exact h
 | cons t l ih =>
  intro s h
  rw [List.foldl_cons];refine ih (fun s hs=>hl s (by simp [hs])) _ ?_
  obtain ⟨h0,h1⟩:=hl t (by simp)
  obtain ⟨i,hi,_,ei,ev⟩:=bAt h0 h1;rw [ei];obtain ⟨a1,a2⟩:=aCc.1 h;rw [aCc];refine ⟨by simpa using a1,fun k b1 b2=>?_⟩
  by_cases hk:i=k
  .subst hk
   rw [List.getElem_set_self,aQv];unfold aIk;rw [ev];obtain ⟨q1,q2⟩:=aNe hf (List.getElem_mem hi) v;exact aRb q1 q2 _
  .rw [List.getElem_set_ne hk]
   exact a2 k (by simpa using b1) b2
theorem aYp {p:Prg} (hc:aBr p=0) {k:Nat} (hk:k<p.rules.length):∀ s∈p.rules[k].sets,0<=s.var/\s.var<=(p.vars.length:Int)-1:=fun s hs=>by
 obtain ⟨_,_,_,_,h5,h6⟩:=aR1 hc (List.getElem_mem hk) hs;exact ⟨h5,h6⟩
theorem aOd {p:Prg} {k:Nat} (hk:k<p.rules.length):aYo p (k:Int)=p.rules[k]:=by
 unfold aYo;rw [Int.toNat_natCast];exact aA8 hk
theorem aW8 {p:Prg} {g:Graph} {c:aA6} (hm:aD1 p g c=0) {v:Nat} (hv:v<c.length) (hen:0<=aCe p.rules g c v):aEk (aIx p g v) (aLb p g c v)=true:=by
 rcases aLp p.rules g c v with ⟨h,_⟩ | ⟨k,hk,h,_⟩
 .omega
 .unfold aLb
  rw [h,aOd hk];exact aTx hm hv (aYp (aAp (aB8 hm).1).1 hk)
theorem aEg (p:Prg) (g:Graph) (c:aA6) (S:Nat):(aBi p g c S).length=c.length:=by simp [aBi]
theorem aYv (p:Prg) (g:Graph) (c:aA6) (S:Nat) {v:Nat} (hv:v<c.length):(aBi p g c S).getD v []=if S.testBit v then aLb p g c v else c.getD v []:=by
 rw [aA8 (by rw [aEg];exact hv)]
 simp [aBi]
theorem aN6 {p:Prg} {g:Graph} {c:aA6} {v:Nat}:(aAk p g c).testBit v=(decide (v<c.length)&&decide (0<=aCe p.rules g c v)):=aEv _ _ _
theorem aVb {p:Prg} {g:Graph} {c:aA6} (hm:aD1 p g c=0) {S:Nat} (hS:∀ v,v<c.length->S.testBit v=true->0<=aCe p.rules g c v):aD1 p g (aBi p g c S)=0:=by
 refine aRt hm (aEg _ _ _ _) fun v hv=>?_
 rw [aEg] at hv;rw [aYv p g c S hv];cases hb:S.testBit v with
 | true=>exact aW8 hm hv (hS v hv hb)
 | false=>exact aMx hm hv
def bBm (g:Graph) (S:Nat):Nat:=aBw g.ports.length fun v=>(g.ports.getD v []).any fun l=>aOo S l.to
def aP8 (g:Graph) (S:Nat):Bool:=aDr g&&aBe S (aBw g.ports.length fun _=>true)&&(List.range 32).all fun v => !((bBm g S).testBit v&&S.testBit v)
def bC1 (S v:Nat) (b:Bool):Nat:=if b then S|||2 ^ v else S
theorem bBa {S v:Nat} (hS:S<4294967296) (hv:v<32) (b:Bool):bC1 S v b<4294967296:=by
 unfold bC1;split
 .exact Nat.or_lt_two_pow (n:=32) hS (aVf hv)
 .exact hS
theorem aVk (S v:Nat):bC1 S v true|||2 ^ v=bC1 S v true:=by
 unfold bC1;rw [if_pos rfl,Nat.or_assoc,Nat.or_self]
def aT4 (ls:List Link):Nat:=ls.foldl (fun s l=>s|||2 ^ l.to.toNat) 0
def aNv (g:Graph) (v:Nat):Nat:=aT4 (g.ports.getD v [])
theorem aY6 (ls:List Link) (l:Link):aT4 (ls++[l])=aT4 ls|||2 ^ l.to.toNat:=by unfold aT4;rw [List.foldl_append];rfl
theorem aQl (ls:List Link) (u:Nat):∀ s:Nat,(ls.foldl (fun s l=>s|||2 ^ l.to.toNat) s).testBit u=(s.testBit u||ls.any fun l=>l.to.toNat==u):=by
 induction ls with
 | nil=>intro s;simp
 | cons l ls ih =>
  intro s
  rw [List.foldl_cons,ih,Nat.testBit_or,bBx,List.any_cons,Bool.or_assoc];rfl
theorem aUy (ls:List Link) (u:Nat):(aT4 ls).testBit u=ls.any fun l=>l.to.toNat==u:=by
 unfold aT4;rw [aQl,Nat.zero_testBit,Bool.false_or]
theorem aY5 {ls:List Link} (h:∀ l∈ls,l.to.toNat<32):aT4 ls<4294967296:=by
 apply Nat.lt_pow_two_of_testBit (n:=32)
 intro i hi
 rw [aUy,List.any_eq_false];intro l hl
 have:=h l hl;simp;omega
theorem aNr {g:Graph} (hg:GOK g) {v:Nat} (hv:v<g.ports.length) {l:Link} (hl:l∈g.ports[v]):0<=l.to/\l.to<(g.ports.length:Int):=by
 obtain ⟨a1,a2,_⟩:=aC1.1 ((aBq.1 (hg.links v hv)).1 l hl);exact ⟨a1,a2⟩
theorem aU0 {g:Graph} (hg:GOK g) (v:Nat):aNv g v<4294967296:=by
 unfold aNv
 by_cases hv:v<g.ports.length
 .rw [aA8 hv]
  refine aY5 fun l hl=>?_
  have:=aNr hg hv hl;have:=hg.le;omega
 .rw [List.getD_eq_getElem?_getD,List.getElem?_eq_none (by omega)];decide
theorem aUz {g:Graph} {v u:Nat} (hv:v<g.ports.length):(aNv g v).testBit u=true↔∃ l∈g.ports[v],l.to.toNat=u:=by
 unfold aNv;rw [aA8 hv,aUy,List.any_eq_true];simp
theorem aRa {A B:Nat}:A&&&B=0↔∀ u,A.testBit u=true->B.testBit u=false:=by
 constructor
 .intro h u hA
  have:=Nat.testBit_and A B u;rw [h,Nat.zero_testBit,hA,Bool.true_and] at this;exact this.symm
 .intro h
  refine Nat.eq_of_testBit_eq fun u=>?_
  rw [Nat.testBit_and,Nat.zero_testBit];cases hA:A.testBit u with
  | false=>rfl
  | true=>rw [h u hA];rfl
theorem aUx {g:Graph} (hg:GOK g) {S v:Nat}:(bBm g S).testBit v=(decide (v<g.ports.length)&&(aNv g v&&&S != 0)):=by
 unfold bBm;rw [aEv]
 by_cases hv:v<g.ports.length
 .rw [decide_eq_true hv,Bool.true_and,Bool.true_and,Bool.eq_iff_iff,List.any_eq_true,bne_iff_ne,ne_eq,aRa,aA8 hv]
  constructor
  .rintro ⟨l,hl,hb⟩ hall
   obtain ⟨a1,a2⟩:=aNr hg hv hl;have hle:=hg.le;unfold aOo at hb;simp at hb
   have:=hall l.to.toNat ((aUz hv).2 ⟨l,hl,rfl⟩);rw [hb.2] at this;cases this
  .intro hn
   apply Classical.byContradiction
   intro hx
   apply hn
   intro u hu
   obtain ⟨l,hl,rfl⟩:=(aUz hv).1 hu;obtain ⟨a1,a2⟩:=aNr hg hv hl;have hle:=hg.le;cases hb:S.testBit l.to.toNat with
   | false=>rfl
   | true=>exact absurd ⟨l,hl,by unfold aOo;rw [decide_eq_true a1,decide_eq_true (show l.to<32 by omega),hb];rfl⟩ hx
 .rw [decide_eq_false hv];rfl
def aI7 (g:Graph) (S:Nat):Bool:=(aAl S).all fun v=>aNv g v&&&S==0
theorem aPv {S n:Nat} (hn:n<=32) (hS:S<4294967296):aBe S (aBw n fun _=>true)=true↔∀ v,S.testBit v=true->v<n:=by
 rw [aC0];constructor
 .intro h v hv
  have:=h v (aK4 hS hv) hv;rw [aEv] at this;simpa using this
 .intro h v _ hv
  rw [aEv,decide_eq_true (h v hv)];rfl
theorem aL8 {g:Graph} {S:Nat} (hS:S<4294967296):aI7 g S=true↔∀ v,S.testBit v=true->aNv g v&&&S=0:=by
 unfold aI7;rw [List.all_eq_true];constructor
 .intro h v hv
  have:=h v (aE4.2 ⟨aK4 hS hv,hv⟩);simpa using this
 .intro h v hv
  simpa using h v (aE4.1 hv).2
theorem aW5 {g:Graph} (hg:GOK g) {S:Nat} (hS:S<4294967296) (hw:aBe S (aBw g.ports.length fun _=>true)=true):aP8 g S=aI7 g S:=by
 have hle:=hg.le;have hn:=(aPv (by omega) hS).1 hw
 unfold aP8;rw [(aDj g).2 hg,hw,Bool.true_and,Bool.true_and,Bool.eq_iff_iff,aL8 hS,List.all_eq_true];constructor
 .intro h v hv
  have:=h v (by rw [List.mem_range];exact aK4 hS hv)
  rw [hv,Bool.and_true,aUx hg,decide_eq_true (hn v hv),Bool.true_and] at this;simpa using this
 .intro h v _
  cases hv:S.testBit v with
  | false=>simp
  | true=>rw [aUx hg,h v hv];simp
def aBh (g:Graph) (kind:Int) (E S:Nat):Bool :=
 if S=0 then false else if aBe S E=false then false
 else if kind=1 then (S&&&(S-1))==0
 else if kind=2 then aI7 g S
 else if kind=4 then S==E
 else true
def aJm (g:Graph) (l:List Nat):Nat:=l.foldl (fun s v=>if aNv g v&&&s=0 then s|||2 ^ v else s) 0
def aCg (g:Graph) (kind:Int) (E W:Nat):Nat :=
 let w:=if W&&&E=0 then lsb E else W&&&E
 if kind=1 then lsb w
 else if kind=2 then aJm g (aAl w)
 else if kind=4 then E
 else w
def aJp (kind:Int):Bool:=decide (1<=kind)&&decide (kind<=4)
open Go.RowKit
attribute [local go_sem] Oper.semAt_some
def aHi (w:World) (b o:Nat) (x:Nat):Prop:=w.cell? ⟨b,o,none⟩=some (.int .u32 (x:Int))
theorem aHi.keeps:aM7 aHi:=fun _ _ _ _ _ k hb h=>(k.cell hb).trans h
def aAa:=aAi 1 aHi
theorem aAa.keep {w w':World} {A:Option Addr} {n:Nat} {xs:List Nat} (h:aAa w A n xs) (k:Bel w w'):aAa w' A n xs:=aAi.keep aHi.keeps h k
theorem aAa.at_ {w:World} {A:Option Addr} {n:Nat} {xs:List Nat} (h:aAa w A n xs) (k:Nat) (hk:k<xs.length) :
  ∃ b o,A=some ⟨b,o,none⟩/\b<w.heap.size/\w.cell? ⟨b,o+k,none⟩=some (.int .u32 (xs[k]:Int)):=by
 obtain ⟨b,o,e,hb,h⟩:=aAi.at_ h k hk;exact ⟨b,o,e,hb,by rw [Nat.mul_one] at h;exact h⟩
def aWb (g:Graph):List Nat:=(List.range g.ports.length).map (aNv g)
def aKw (w:World) (A:Option Addr) (g:Graph):Prop:=aAa w A g.ports.length (aWb g)
theorem aKw.keep {w w':World} {A:Option Addr} {g:Graph} (h:aKw w A g) (k:Bel w w'):aKw w' A g:=aAa.keep h k
theorem aKw.at_ {w:World} {A:Option Addr} {g:Graph} (h:aKw w A g) {v:Nat} (hv:v<g.ports.length) :
  ∃ b o,A=some ⟨b,o,none⟩/\b<w.heap.size/\w.cell? ⟨b,o+v,none⟩=some (.int .u32 (aNv g v:Int)):=by
 obtain ⟨b,o,e,hb,h⟩:=aAa.at_ h v (by unfold aWb;simpa using hv)
 refine ⟨b,o,e,hb,?_⟩
 rw [h];simp [aWb]
theorem aXs (A:Option Addr) (c:Nat) (g:Graph) (S:Nat) (w:World) (hN:aKw w A g) (hT:aCt w) (hS:S<4294967296) (hw:∀ v,S.testBit v=true->v<g.ports.length) (hg:GOK g) :
  Calls prog 109 #[.slice A g.ports.length c,.int .u32 (S:Int)] w fun e w'=>e = .returned (.bool (aI7 g S))/\Bel w w':=by
 have HN:=aA0 (fun w' (k:Bel w w')=>hN.keep k);have HT:=aA0 (fun w' (k:Bel w w')=>hT.keep k);refine aJj func109 rfl ?_
 simp only [ntmps109,List.size_toArray,List.length_cons,List.length_nil,Nat.reduceAdd,Nat.reduceSub,Array.replicate_succ,Array.replicate_zero,List.push_toArray,List.append_toArray,List.nil_append,List.cons_append]
 go_wp2_with (go_at_call 96;refine (aH9 _ _).mono ?_;rintro e w' ⟨rfl,rfl⟩)
 obtain ⟨W0,hW0⟩:∃ W0,(((w.alloc (.cells #[.slice A g.ports.length c] 66)).alloc (.cells #[.int .u32 (S:Int)] 34)).alloc (.cells #[.bool false] 4)).alloc (.cells #[.int .u32 (S:Int)] 34)=W0:=⟨_,rfl⟩;have b1:Boxed W0 w.heap.size 66 (.slice A g.ports.length c):=by rw [<- hW0];exact (((Boxed.new w _ _).alloc _).alloc _).alloc _
 have b2:Boxed W0 (w.heap.size+1) 34 (.int .u32 (S:Int)):=by
  rw [<- hW0];have:=Boxed.new (w.alloc (.cells #[.slice A g.ports.length c] 66)) 34 (.int .u32 (S:Int));rw [World.size_alloc] at this;exact (this.alloc _).alloc _
 have b3:Boxed W0 (w.heap.size+1+1) 4 (.bool false):=by
  rw [<- hW0];have:=Boxed.new ((w.alloc (.cells #[.slice A g.ports.length c] 66)).alloc (.cells #[.int .u32 (S:Int)] 34)) 4 (.bool false);rw [World.size_alloc,World.size_alloc] at this;exact this.alloc _
 have b4:Boxed W0 (w.heap.size+1+1+1) 34 (.int .u32 (S:Int)):=by
  rw [<- hW0];have:=Boxed.new (((w.alloc (.cells #[.slice A g.ports.length c] 66)).alloc (.cells #[.int .u32 (S:Int)] 34)).alloc (.cells #[.bool false] 4)) 34 (.int .u32 (S:Int));rw [World.size_alloc,World.size_alloc,World.size_alloc] at this;exact this
 have hb0:Bel w W0:=by rw [<- hW0];exact ((((Bel.refl w).alloc _).alloc _).alloc _).alloc _
 have hz0:W0.heap.size=w.heap.size+1+1+1+1:=by rw [<- hW0];simp
 rw [hW0];clear hW0;refine (wpIn_wide (n:=5)).1 ?_
 refine aK0 (n:=5) rfl (by decide) (gf:=119) (lb:=#[.pointer (some ⟨w.heap.size+1+1+1,0,none⟩)]) (by simp [go_sem]) trivial (enters_of func119 (by kernel_rfl) rfl)
  (aNw 4 _ S W0 (by decide) hS b4 (HT.out _ hb0)) (by rintro k rfl;omega) (by rintro k rfl;exact (HT.out _ hb0).1) (fun _=>rfl) (fun k=>k=w.heap.size+1+1+1∨k=W0.heap.size∨k=W0.heap.size+1) (fun k=>Iff.rfl)
  (fun pre W=>Boxed W w.heap.size 66 (.slice A g.ports.length c)/\Boxed W (w.heap.size+1) 34 (.int .u32 (S:Int))/\Boxed W (w.heap.size+1+1) 4 (.bool false)/\(∀ v∈pre,aNv g v&&&S=0)/\Bel w W)
  (fun c pre W=>c = .ret/\Boxed W (w.heap.size+1+1) 4 (.bool false)/\aI7 g S=false/\Bel w W)
  (fun s A B ⟨h1,h2,h3,h4,h5⟩ hg=>⟨hg.boxed h1 (by omega),hg.boxed h2 (by omega),hg.boxed h3 (by omega),h4,hg.belE h5 (by omega)⟩)
  (fun c s A B ⟨h1,h2,h3,h4⟩ hg=>⟨h1,hg.boxed h2 (by omega),h3,hg.belE h4 (by omega)⟩)
  ⟨b1,b2,b3,by simp,hb0⟩
  (fun x a' W=>a'={ tmps:=#[.slice A g.ports.length c,.int .u32 (S:Int),.pointer (some ⟨w.heap.size,0,none⟩),.pointer (some ⟨w.heap.size+1,0,none⟩),.pointer (some ⟨w.heap.size+1+1,0,none⟩),.int .i64 (x:Int),.int .u32 (S:Int),.func (.func 119) #[] #[.pointer (some ⟨w.heap.size+1+1+1,0,none⟩)],.int .i64 (x:Int),undef,undef,undef,undef,undef,undef,undef],defers:=[] })
  (fun _ _ _ _ h _=>h) ?assign ?body ?done ?stop
 case assign =>
  intro pre x W K hp hI hl hK
  gi_wp2
  exact hK _ _ (aCm.refl _ _) hI rfl
 case body =>
  rintro pre x a' W hp ⟨h1,h2,h3,h4,h5⟩ rfl hl ⟨r,hr⟩;obtain ⟨c1,f1,l1⟩:=aA4 h1;obtain ⟨c2,f2,l2⟩:=aA4 h2;obtain ⟨c3,f3,l3⟩:=aA4 h3;have hx:x∈aAl S:=hp.subset (by simp)
  have hxn:=hw x (aE4.1 hx).2;obtain ⟨b,o,e,hb,hc⟩:=(HN.out _ h5).at_ hxn;subst e;have q:=aCv (aU0 hg x) hS;have hdx:decide (x<g.ports.length)=true:=by simpa using hxn
  generalize hnv:aNv g x=N at *;refine wpIn_block (wpIn_seq ?_)
  refine aA7.startIn (fun w'=>w'.cell? ⟨w.heap.size,0,none⟩=some (.slice (some ⟨b,o,none⟩) g.ports.length c)/\w'.cell? ⟨w.heap.size+1,0,none⟩=some (.int .u32 (S:Int))/\w'.cell? ⟨b,o+x,none⟩=some (.int .u32 (N:Int))/\w.heap.size<w'.heap.size/\w.heap.size+1<w'.heap.size/\b<w'.heap.size) 6 (by kernel_rfl) (by kernel_rfl) (by rintro ⟨_,_,h⟩;exact h) ?_
  have hHeld:W.drew.cell? ⟨w.heap.size,0,none⟩=some (.slice (some ⟨b,o,none⟩) g.ports.length c)/\W.drew.cell? ⟨w.heap.size+1,0,none⟩=some (.int .u32 (S:Int))/\W.drew.cell? ⟨b,o+x,none⟩=some (.int .u32 (N:Int))/\w.heap.size<W.drew.heap.size/\w.heap.size+1<W.drew.heap.size/\b<W.drew.heap.size:=⟨c1,c2,hc,l1,l2,hb⟩
  by_cases hz:N&&&S=0
  .rw [hz] at q
   (refine aA7.t (v:=?_) 0 9 rfl rfl (by kernel_rfl) (fun _ _ _ h=>h) hHeld (Or.inl ⟨by rfl,?_⟩) ?_;rotate_left 1;focus (intro w' hSw;(try dsimp only at hSw);go_simp;(try with_reducible rfl);done))
   (refine aA7.t (v:=?_) 1 10 rfl rfl (by kernel_rfl) (fun _ _ _ h=>h) hHeld (Or.inl ⟨by rfl,?_⟩) ?_;rotate_left 1;focus (intro w' hSw;(try dsimp only at hSw);go_simp;(try with_reducible rfl);done))
   (refine aA7.t (v:=?_) 2 11 rfl rfl (by kernel_rfl) (fun _ _ _ h=>h) hHeld (Or.inl ⟨by rfl,?_⟩) ?_;rotate_left 1;focus (intro w' hSw;(try dsimp only at hSw);go_simp;(try with_reducible rfl);done))
   (refine aA7.t (v:=?_) 3 12 rfl rfl (by kernel_rfl) (fun _ _ _ h=>h) hHeld (Or.inl ⟨by rfl,?_⟩) ?_;rotate_left 1;focus (intro w' hSw;(try dsimp only at hSw);go_simp;(try with_reducible rfl);done))
   (refine aA7.t (v:=?_) 4 13 rfl rfl (by kernel_rfl) (fun _ _ _ h=>h) hHeld (Or.inl ⟨by rfl,?_⟩) ?_;rotate_left 1;focus (intro w' hSw;(try dsimp only at hSw);go_simp;(try with_reducible rfl);done))
   (refine aA7.t (v:=?_) 5 14 rfl rfl (by kernel_rfl) (fun _ _ _ h=>h) hHeld (Or.inl ⟨by rfl,?_⟩) ?_;rotate_left 1;focus (intro w' hSw;(try dsimp only at hSw);go_simp;(try with_reducible rfl);done))
   refine aA7.one (i:=6) (by kernel_rfl) rfl (fun K hK=>?_)
   go_simp
   refine hK.out _ _ (fun h=>absurd rfl h) ?_
   refine aA7.done (by kernel_rfl) ?_ _
   (try simp only [Act.put,List.setIfInBounds_toArray,List.set_cons_zero,List.set_cons_succ])
   change Code.wpIn _ _ _ _ _ _ _
   gi_wp2
   exact ⟨aCm.of_bel ((Bel.refl W).drew),h1,h2,h3,fun v hv=>by
    rcases List.mem_append.1 hv with hv | hv
    .exact h4 v hv
    .obtain rfl:v=x:=by simpa using hv
     rw [hnv];exact hz,h5.drew⟩
  .have hq:(((N&&&S:Nat):Int) != 0)=true:=by simpa using hz
   have hpf:aI7 g S=false:=by
    rw [Bool.eq_false_iff];intro hp
    have:=(aL8 hS).1 hp x (aE4.1 hx).2;rw [hnv] at this;exact hz this
   generalize N&&&S=M at *
   (refine aA7.t (v:=?_) 0 9 rfl rfl (by kernel_rfl) (fun _ _ _ h=>h) hHeld (Or.inl ⟨by rfl,?_⟩) ?_;rotate_left 1;focus (intro w' hSw;(try dsimp only at hSw);go_simp;(try with_reducible rfl);done))
   (refine aA7.t (v:=?_) 1 10 rfl rfl (by kernel_rfl) (fun _ _ _ h=>h) hHeld (Or.inl ⟨by rfl,?_⟩) ?_;rotate_left 1;focus (intro w' hSw;(try dsimp only at hSw);go_simp;(try with_reducible rfl);done))
   (refine aA7.t (v:=?_) 2 11 rfl rfl (by kernel_rfl) (fun _ _ _ h=>h) hHeld (Or.inl ⟨by rfl,?_⟩) ?_;rotate_left 1;focus (intro w' hSw;(try dsimp only at hSw);go_simp;(try with_reducible rfl);done))
   (refine aA7.t (v:=?_) 3 12 rfl rfl (by kernel_rfl) (fun _ _ _ h=>h) hHeld (Or.inl ⟨by rfl,?_⟩) ?_;rotate_left 1;focus (intro w' hSw;(try dsimp only at hSw);go_simp;(try with_reducible rfl);done))
   (refine aA7.t (v:=?_) 4 13 rfl rfl (by kernel_rfl) (fun _ _ _ h=>h) hHeld (Or.inl ⟨by rfl,?_⟩) ?_;rotate_left 1;focus (intro w' hSw;(try dsimp only at hSw);go_simp;(try with_reducible rfl);done))
   (refine aA7.t (v:=?_) 5 14 rfl rfl (by kernel_rfl) (fun _ _ _ h=>h) hHeld (Or.inl ⟨by rfl,?_⟩) ?_;rotate_left 1;focus (intro w' hSw;(try dsimp only at hSw);go_simp;(try with_reducible rfl);done))
   refine aA7.one (i:=6) (by kernel_rfl) rfl (fun K hK=>?_)
   go_simp
   refine hK.out _ _ (fun h=>absurd rfl h) ?_
   refine aA7.done (by kernel_rfl) ?_ _
   (try simp only [Act.put,List.setIfInBounds_toArray,List.set_cons_zero,List.set_cons_succ])
   change Code.wpIn _ _ _ _ _ _ _
   gi_wp2
   refine ⟨(aCm.of_bel ((Bel.refl W).drew)).trans (aCm.setCell _ _ _ ?_),rfl,Boxed.set _ (show Boxed W.drew _ _ _ from h3),hpf,h5.drew.setCell (by simp;omega) _⟩
   have:=hT.1;rintro ((h | h | h) | h) <;> simp at h <;> omega
 case done =>
  rintro W ⟨h1,h2,h3,h4,h5⟩ hK;obtain ⟨c3,f3,l3⟩:=aA4 h3;have hpt:aI7 g S=true:=(aL8 hS).2 fun v hv=>h4 v (aE4.2 ⟨aK4 hS hv,hv⟩);go_wp2;have h3':=h3.set (.bool true);refine aFw (B:=w.heap.size) (aFn.push (aFn.nil _ _) (by omega) ((Below.heap_setCell _ _ _ _ (by simp;omega)).trans hK) (by simp)) ?_
  intro W' hA hs
  have hr:=hA.cellD h3'.cell;exact ⟨.bool true,by simp [results,Tryz.results109,go_sem,hr],aA2 hpt.symm,hA.bel (h5.setCell (by simp;omega) _)⟩
 case stop =>
  rintro c' pre W hp ⟨rfl,h3,hpf,h5⟩ hK;refine wpIn_wide.2 ?_
  go_wp2;refine aFw (B:=w.heap.size) (aFn.push (aFn.nil _ _) (by omega) hK (by simp)) ?_
  intro W' hA hs
  have hr:=hA.cellD h3.cell;exact ⟨.bool false,by simp [results,Tryz.results109,go_sem,hr],aA2 hpf.symm,hA.bel h5⟩
end Go.Proofs.YtdcjnhoabbdanaaGreatDoor

namespace Go.Proofs.YtdcjnhoabbdanaaGreatDoor
theorem aXr {g:Graph} (hg:aDr g=true) {S:Nat} (hS:S<4294967296):aP8 g S=(aBe S (aBw g.ports.length fun _=>true)&&(bBm g S&&&S==0)):=by
 unfold aP8;rw [hg,Bool.true_and]
 congr 1
 rw [Bool.eq_iff_iff,List.all_eq_true,beq_iff_eq];constructor
 .intro h
  refine Nat.eq_of_testBit_eq fun v=>?_
  rw [Nat.testBit_and,Nat.zero_testBit];cases hb:S.testBit v with
  | false=>exact Bool.and_false _
  | true =>
   have:=h v (List.mem_range.2 (aK4 hS hb));rw [hb] at this;simpa using this
 .intro h v _
  have:=congrArg (fun x=>x.testBit v) h;simp only [Nat.testBit_and,Nat.zero_testBit] at this
  rw [this];rfl
theorem aTs:∀ {bs:List (Int × Int)} {cs:List Int},inL bs cs↔cs.length=bs.length/\∀ i,(h1:i<cs.length)->(h2:i<bs.length)->bs[i].1<=cs[i]/\cs[i]<=bs[i].2
 | [],[]=>by simp [inL]
 | [],_ :: _=>by simp [inL]
 | _ :: _,[]=>by simp [inL]
 | b :: bs,c :: cs=>by
  have ih:=aTs (bs:=bs) (cs:=cs);constructor
  .rintro ⟨h1,h2,h3⟩
   obtain ⟨h4,h5⟩:=ih.1 h3;refine ⟨by simp [h4],fun i a1 a2=>?_⟩
   cases i with
   | zero=>exact ⟨h1,h2⟩
   | succ i=>exact h5 i (by simpa using a1) (by simpa using a2)
  .rintro ⟨h1,h2⟩
   have h0:=h2 0 (by simp) (by simp)
   refine ⟨h0.1,h0.2,ih.2 ⟨by simpa using h1,fun i a1 a2=>?_⟩⟩
   exact h2 (i+1) (by simpa using a1) (by simpa using a2)
theorem aTt:∀ {T:List (List (Int × Int))} {C:aA6},inN T C↔C.length=T.length/\∀ v,(h1:v<C.length)->(h2:v<T.length)->inL T[v] C[v]
 | [],[]=>by simp [inN]
 | [],_ :: _=>by simp [inN]
 | _ :: _,[]=>by simp [inN]
 | t :: T,c :: C=>by
  have ih:=aTt (T:=T) (C:=C);constructor
  .rintro ⟨h1,h3⟩
   obtain ⟨h4,h5⟩:=ih.1 h3;refine ⟨by simp [h4],fun i a1 a2=>?_⟩
   cases i with
   | zero=>exact h1
   | succ i=>exact h5 i (by simpa using a1) (by simpa using a2)
  .rintro ⟨h1,h2⟩
   have h0:=h2 0 (by simp) (by simp)
   refine ⟨h0,ih.2 ⟨by simpa using h1,fun i a1 a2=>?_⟩⟩
   exact h2 (i+1) (by simpa using a1) (by simpa using a2)
theorem bBf {T:List (List (Int × Int))} {C:aA6}:aH5 T C=true↔inN T C:=by
 rw [aCd,aTt];constructor
 .rintro ⟨h1,h2⟩;exact ⟨h1,fun v a b=>aTs.2 (aCc.1 (h2 v a b))⟩
 .rintro ⟨h1,h2⟩;exact ⟨h1,fun v a b=>aCc.2 (aTs.1 (h2 v a b))⟩
theorem bCc {p:Prg} {g:Graph} {c:aA6} (hm:aD1 p g c=0):inN (aAz p g) c:=bBf.1 (aB8 hm).2
theorem aN5 {S n:Nat} (hn:n<=32) (hS:S<2 ^ n):(aAl S).length<=n:=by
 rw [aTl hn hS];exact Nat.le_trans (List.length_filter_le _ _) (by simp)
theorem aF0 {g:Graph} {kind:Int} {E S:Nat} (h:aBh g kind E S=true):S≠0/\aBe S E=true:=by
 unfold aBh at h;split at h
 .cases h
 split at h
 .cases h
 .rename_i h1 h2
  exact ⟨h1,by simpa using h2⟩
theorem aO3 {S E:Nat} (hS:S<4294967296) (hE:E<4294967296):S&&&E=S↔aBe S E=true:=by
 rw [aC0];constructor
 .intro h v _ hv
  have:=Nat.testBit_and S E v;rw [h,hv,Bool.true_and] at this;exact this.symm
 .intro h
  refine bA7 (Nat.and_lt_two_pow (n:=32) S hE) hS fun v hv=>?_
  rw [Nat.testBit_and];cases hb:S.testBit v with
  | false=>rfl
  | true=>rw [h v hv hb];rfl
theorem aIo {E n:Nat} (hn:n<=32) (hE:E<2 ^ n):aBe E (aBw n fun _=>true)=true:=by
 have h32:E<4294967296:=Nat.lt_of_lt_of_le hE (Nat.pow_le_pow_right (n:=2) (by decide) hn)
 rw [aPv hn h32];intro v hv
 rcases Nat.lt_or_ge v n with h | h
 .exact h
 .have e:2 ^ n<=2 ^ v:=Nat.pow_le_pow_right (by decide) h
  rw [Nat.testBit_lt_two_pow (Nat.lt_of_lt_of_le hE e)] at hv;cases hv
theorem aT2 {A B C:Nat} (h:aBe A B=true) (k:aBe B C=true):aBe A C=true:=by
 rw [aC0] at *;exact fun v hv hA=>k v hv (h v hv hA)
def aCy (g:Graph) (v s:Nat):List Value:=(List.range g.ports.length).map fun u=>Value.int .u32 ((if u<v then aNv g u else if u=v then s else 0:Nat):Int)
theorem aRy (g:Graph):aCy g 0 0=List.replicate g.ports.length (.int .u32 0):=by
 apply List.ext_getElem
 .simp [aCy]
 .intro i h1 h2
  simp [aCy]
theorem aU1 (g:Graph) {v:Nat} (_:v<g.ports.length) (s s':Nat):(aCy g v s).set v (.int .u32 (s':Int))=aCy g v s':=by
 apply List.ext_getElem
 .simp [aCy]
 .intro i h1 h2
  rw [List.getElem_set]
  by_cases h:v=i
  .subst h;rw [if_pos rfl];simp [aCy]
  .rw [if_neg h]
   simp only [aCy,List.getElem_map,List.getElem_range]
   by_cases hi:i<v
   .rw [if_pos hi,if_pos hi]
   .rw [if_neg hi,if_neg hi,if_neg (fun e=>h e.symm),if_neg (fun e=>h e.symm)]
theorem aRx (g:Graph) (v:Nat):aCy g v (aNv g v)=aCy g (v+1) 0:=by
 unfold aCy;refine List.map_congr_left fun u _=>?_
 by_cases h:u<v
 .rw [if_pos h,if_pos (by omega)]
 .rw [if_neg h]
  by_cases h2:u=v
  .subst h2;rw [if_pos rfl,if_pos (by omega)]
  .rw [if_neg h2,if_neg (by omega)]
   split <;> rfl
theorem aWa (g:Graph) {v:Nat} (hv:v<g.ports.length) (s:Nat):(aCy g v s)[v]?=some (.int .u32 (s:Int)):=by
 unfold aCy;rw [List.getElem?_map,List.getElem?_range hv];simp
theorem aRw (g:Graph) (s:Nat) {u:Nat} (hu:u<g.ports.length):(aCy g g.ports.length s)[u]?=some (.int .u32 (aNv g u:Int)):=by
 unfold aCy;rw [List.getElem?_map,List.getElem?_range hu];simp [hu]
theorem aY7 {ls:List Link} {i:Nat} (hi:i<ls.length):aT4 (ls.take (i+1))=aT4 (ls.take i)|||2 ^ ls[i].to.toNat:=by
 rw [List.take_succ_eq_append_getElem hi,aY6]
theorem aWs {p:Prg} {g:Graph} {v:Nat} (hv:v<(aAz p g).length):((aAz p g)[v]).length=p.vars.length:=by simp [aAz,aIx]
theorem bAm {t:List (Int × Int)} {j:Nat} (hj:j<t.length):aSp (t.drop j)=(t[j].2-t[j].1+1)*aSp (t.drop (j+1)):=by
 rw [List.drop_eq_getElem_cons hj];rfl
theorem bAn {T:List (List (Int × Int))} {v:Nat} (hv:v<T.length):aOz (T.drop v)=aSp T[v]*aOz (T.drop (v+1)):=by
 rw [List.drop_eq_getElem_cons hv];rfl
def Prod (T:List (List (Int × Int))) (v j:Nat) (r:Int):Prop:=1<=r/\r<=32768/\r*(aSp ((T.getD v []).drop j)*aOz (T.drop (v+1)))=aOz T
def aX0 (T:List (List (Int × Int))) (v:Nat) (r:Int):Prop:=1<=r/\r<=32768/\r*aOz (T.drop v)=aOz T
theorem aX0.start (T:List (List (Int × Int))):aX0 T 0 1:=⟨by decide,by decide,by rw [List.drop_zero,Int.one_mul]⟩
theorem aX0.row {T:List (List (Int × Int))} {v:Nat} {r:Int} (h:aX0 T v r) (hv:v<T.length):Prod T v 0 r:=by
 obtain ⟨h1,h2,h3⟩:=h;refine ⟨h1,h2,?_⟩
 rw [List.getD_eq_getElem?_getD,List.getElem?_eq_getElem hv,Option.getD_some,List.drop_zero,<- bAn hv];exact h3
theorem Prod.done {T:List (List (Int × Int))} {v:Nat} {r:Int} (hv:v<T.length) (h:Prod T v T[v].length r):aX0 T (v+1) r:=by
 obtain ⟨h1,h2,h3⟩:=h;refine ⟨h1,h2,?_⟩
 rw [List.getD_eq_getElem?_getD,List.getElem?_eq_getElem hv,Option.getD_some,List.drop_length] at h3;rw [<- h3];show _=r*(1*_);rw [Int.one_mul]
theorem Prod.step {T:List (List (Int × Int))} {v j:Nat} {r:Int} (ho:okN T) (hv:v<T.length) (hj:j<T[v].length) (h:Prod T v j r) :
  (32768<r*(T[v][j].2-T[v][j].1+1)->32768<aOz T)/\(r*(T[v][j].2-T[v][j].1+1)<=32768->Prod T v (j+1) (r*(T[v][j].2-T[v][j].1+1))):=by
 obtain ⟨h1,h2,h3⟩:=h;have e:T.getD v []=T[v]:=by rw [List.getD_eq_getElem?_getD,List.getElem?_eq_getElem hv,Option.getD_some]
 rw [e,bAm hj,Int.mul_assoc,<- Int.mul_assoc r] at h3;have hok:okL T[v]:=ho _ (List.getElem_mem hv);have hb:=hok _ (List.getElem_mem hj);have hr:r<=r*(T[v][j].2-T[v][j].1+1):=bB2 h1 (by omega)
 have h4:=aOh (bAb hok (j+1));have h5:=aSq (bAc ho (v+1));have h6:=Int.mul_pos h4 h5;have h7:=bB2 (r:=r*(T[v][j].2-T[v][j].1+1)) (s:=aSp (T[v].drop (j+1))*aOz (T.drop (v+1))) (by omega) (by omega)
 refine ⟨fun h=>by omega,fun h=>⟨by omega,h,by rw [e];exact h3⟩⟩
open Go.RowKit
theorem aDh {p:Prg} {g:Graph} {c:aA6} (hm:aD1 p g c=0) (hL:aAu p=true):aBs c=true:=by
 have hf:=(aB8 hm).1;have hg:=(aAp hf).2.1;have hcl:=aDg hm;have hle:=hg.le;have hv10:=(aBc hL).2.1;unfold aBs;rw [Bool.and_eq_true,decide_eq_true_eq,List.all_eq_true];refine ⟨by omega,fun r hr=>?_⟩
 obtain ⟨v,hv,rfl⟩:=List.getElem_of_mem hr;have hvt:v<(aAz p g).length:=by rw [aCj,hg.ids,<- hcl];exact hv
 have:=aP6 ((aTt.1 (bCc hm)).2 v hv hvt);rw [aWs hvt] at this;simp;omega
section
variable {P:Program} {ops:Array Oper} {Q:Exit->Act->World->Prop} {md:Region.Mode} {S:World->Prop} {Ls:List Nat}
def aEh (P:Program) (md:Region.Mode) (ops:Array Oper) (Q:Exit->Act->World->Prop) (S:World->Prop) (Ls:List Nat):Nat->Array Bool->Act->World->Prop
 | 0,listed,a,w=>Region.ready md ops listed=[]/\Q .normal a w
 | fuel+1,listed,a,w=>(Region.ready md ops listed=[]->Q .normal a w) /\
   ∀ i∈Region.ready md ops listed,wpOp P ops Q i (fun a' w'=>(i ∉ Ls->S w')/\aEh P md ops Q S Ls fuel (listed.setIfInBounds i true) a' w') a w
theorem aEh.any:∀ (fuel:Nat) (listed:Array Bool) (a:Act) (w:World),aEh P md ops Q S Ls fuel listed a w->wpAny P md ops Q fuel listed a w
 | 0,_,_,_,h=>h
 | fuel+1,_,_,_,h=>⟨h.1,fun i hi=>wpOp_mono (fun a' w' k=>aEh.any fuel _ a' w' k.2) (h.2 i hi)⟩
theorem aEh.first {i:Nat} {oi:Oper} {v:Value} (cs:List Nat) (hi:ops[i]?=some oi) (hsel:∀ (j:Nat) (o:Oper) cs b,ops[j]?=some o->o.op ≠ .select cs b)
  (hL:∀ l∈Ls,l∈cs) (hw:aMa md ops i cs=true)
  (hQ:∀ c a w,Q (.panic c) (a.put oi.dst v) w->Q (.panic c) a w) (fuel:Nat):∀ (listed:Array Bool) (a:Act) (w:World),
   (∀ j oj,ops[j]?=some oj->j≠i->listed.getD j true=false->(∀ e∈oj.after,Region.binds md e=true->e.on≠i)->oi.apart ops oj=true) ->
   i∈Region.ready md ops listed->aEw listed cs=true->YieldsIf P ops S oi v a->S w ->
   aEh P md ops Q S Ls fuel (listed.setIfInBounds i true) (a.put oi.dst v) w->aEh P md ops Q S Ls (fuel+1) listed a w:=by
 induction fuel with
 | zero =>
  intro listed a w _ hr _ hy hS H
  refine And.intro (fun h=>?_) (fun j hj=>?_)
  .rw [h] at hr;exact absurd hr (by simp)
  by_cases hji:j=i
  .subst hji;exact hy.wpOp hi hS ⟨fun _=>hS,H⟩
  .have:=ready_mono hj hji
   rw [H.1] at this;exact absurd this (by simp)
 | succ fuel ih =>
  intro listed a w hfree hr hun hy hS H
  refine And.intro (fun h=>?_) (fun j hj=>?_)
  .rw [h] at hr;exact absurd hr (by simp)
  by_cases hji:j=i
  .subst hji;exact hy.wpOp hi hS ⟨fun _=>hS,H⟩
  have hi0:=(mem_ready.1 hr).1;have hjc:=aS0 hj cs i hi0 hw hun;have hjL:j ∉ Ls:=fun e=>hjc (hL j e);obtain ⟨hjun,oj,hoj,hall⟩:=mem_ready.1 hj
  have hnot:∀ e∈oj.after,Region.binds md e=true->e.on≠i:=fun e he hb heq=>by
   have h1:=hall e he hb;rw [heq] at h1
   rcases Nat.lt_or_ge i listed.size with h' | h'
   .simp [h'] at hi0 h1;rw [hi0] at h1;cases h1
   .simp [Array.getElem?_eq_none h'] at h1
  have h2:=wpOp_putIf hoj (hfree j oj hoj hji hjun hnot) (fun cs b=>hsel i oi cs b hi) (fun cs b=>hsel j oj cs b hoj) hQ hy (H.2 j (ready_mono hj hji));refine wpOp_mono (fun a' w' h3=>?_) h2
  obtain ⟨hy',hS',hrest⟩:=h3;have hs':=hS' hjL;refine ⟨fun _=>hs',ih _ a' w' ?_ (ready_mono hr (Ne.symm hji)) ?_ hy' hs' (by rw [Array.setIfInBounds_comm _ _ hji];exact hrest)⟩
  .intro k ok hk hki hunk hno
   refine hfree k ok hk hki ?_ hno
   by_cases hjk:j=k
   .subst hjk;exact hjun
   .rw [getD_set_ne true hjk] at hunk;exact hunk
  .unfold aEw at hun ⊢
   rw [List.all_eq_true] at hun ⊢;intro c hc
   rw [getD_set_ne true (show j≠c from fun e=>hjc (by rw [e];exact hc))]
   exact hun c hc
theorem aEh.t {L:Nat} {oi:Oper} {v:Value} {fuel:Nat} {listed:Array Bool} {a:Act} {w:World} (i d:Nat) (hi:ops[i]?=some oi) (hd:oi.dst=some d)
  (hc:(Region.noSelect ops&&Region.free md ops listed i&&(Region.ready md ops listed).contains i&&((L :: Ls).all (aHm md ops L 60 i).contains&&aMa md ops i (aHm md ops L 60 i)&&aEw listed (aHm md ops L 60 i)))=true)
  (hQ:∀ c a w,Q (.panic c) (a.put (some d) v) w->Q (.panic c) a w) (hS:S w) (hy:YieldsIf P ops S oi v a)
  (h:aEh P md ops Q S (L :: Ls) fuel (listed.setIfInBounds i true) (a.put (some d) v) w):aEh P md ops Q S (L :: Ls) (fuel+1) listed a w:=by
 rw [Bool.and_eq_true,Bool.and_eq_true,Bool.and_eq_true,Bool.and_eq_true,Bool.and_eq_true] at hc;exact aEh.first (aHm md ops L 60 i) hi (Region.noSelect_spec hc.1.1.1) (fun l hl=>by have:=List.all_eq_true.1 hc.2.1.1 l hl;simpa using this) hc.2.1.2 (by rw [hd];exact hQ) fuel listed a w (Region.free_spec hi hc.1.1.2) (by simpa using hc.1.2) hc.2.2 hy hS (by rw [hd];exact h)
theorem aEh.one {i:Nat} {o:Oper} {fuel:Nat} {listed:Array Bool} {a:Act} {w:World} (hr:Region.ready md ops listed=[i]) (ho:ops[i]?=some o)
  (h:∀ K':Act->World->Prop,Shut (∀ a w,(i ∉ Ls->S w)->aEh P md ops Q S Ls fuel (listed.setIfInBounds i true) a w->K' a w)->if Region.wanted o (yielded ops a.tmps)=true then Oper.wp P o a w K' Q else K' (a.put o.dst undef) w) :
  aEh P md ops Q S Ls (fuel+1) listed a w:=by
 refine And.intro (fun h=>by rw [h] at hr;exact absurd hr (by simp)) (fun j hj=>?_)
 rw [hr] at hj;obtain rfl:j=i:=by simpa using hj
 exact wpOp_step ho (fun K' hK=>h K' (fun a w hS hW=>hK a w ⟨hS,hW⟩))
theorem aEh.two {i j:Nat} {o o2:Oper} {fuel:Nat} {listed:Array Bool} {a:Act} {w:World} (hr:Region.ready md ops listed=[i,j]) (ho:ops[i]?=some o) (ho2:ops[j]?=some o2)
  (h:∀ K':Act->World->Prop,Shut (∀ a w,(i ∉ Ls->S w)->aEh P md ops Q S Ls fuel (listed.setIfInBounds i true) a w->K' a w)->if Region.wanted o (yielded ops a.tmps)=true then Oper.wp P o a w K' Q else K' (a.put o.dst undef) w)
  (h2:∀ K':Act->World->Prop,Shut (∀ a w,(j ∉ Ls->S w)->aEh P md ops Q S Ls fuel (listed.setIfInBounds j true) a w->K' a w)->if Region.wanted o2 (yielded ops a.tmps)=true then Oper.wp P o2 a w K' Q else K' (a.put o2.dst undef) w) :
  aEh P md ops Q S Ls (fuel+1) listed a w:=by
 refine And.intro (fun h=>by rw [h] at hr;exact absurd hr (by simp)) (fun k hk=>?_)
 rw [hr] at hk;have hk':k=i∨k=j:=by simpa using hk
 rcases hk' with rfl | rfl
 .exact wpOp_step ho (fun K' hK=>h K' (fun a w hS hW=>hK a w ⟨hS,hW⟩))
 .exact wpOp_step ho2 (fun K' hK=>h2 K' (fun a w hS hW=>hK a w ⟨hS,hW⟩))
theorem aEh.done {listed:Array Bool} {a:Act} {w:World} (hr:Region.ready md ops listed=[]) (h:Q .normal a w):∀ fuel,aEh P md ops Q S Ls fuel listed a w
 | 0=>⟨hr,h⟩
 | _+1=>⟨fun _=>h,by rw [hr];simp⟩
theorem aEh.start (S:World->Prop) (Ls:List Nat) {id:Nat} {a:Act} {w:World} (hm:P.follows .mixedOrders=true)
  (h:aEh P .any ops Q S Ls ops.size (Array.replicate ops.size false) a w.drew):(Code.region id ops true).wp P Q a w :=
 wp_region_any hm (aEh.any _ _ _ _ h)
end
open Go.ChangeShapes Go.WideShapes Go.ChangeAt Go.WideMaps Go.WideElems Go.RowKit Go.Deep
abbrev jc0 (P:Program) (f:FuncId) (fn:Func) (s:ChangeSpec) (c:OpenClaim):Bool:=c.wf (OpenSpec.ofChange s)
abbrev jc1 (P:Program) (f:FuncId) (fn:Func) (s:ChangeSpec) (c:OpenClaim):Bool:=laidOutB P
abbrev jc2 (P:Program) (f:FuncId) (fn:Func) (s:ChangeSpec) (c:OpenClaim):Bool:=mapsRowed P
abbrev jc3 (P:Program) (f:FuncId) (fn:Func) (s:ChangeSpec) (c:OpenClaim):Bool:=fn.params.all (P.readableRec ·)
abbrev jc4 (P:Program) (f:FuncId) (fn:Func) (s:ChangeSpec) (c:OpenClaim):Bool:=namedTie P c.named s.vars
abbrev jc5 (P:Program) (f:FuncId) (fn:Func) (s:ChangeSpec) (c:OpenClaim):Bool:=(c.stops==[])
abbrev jc6 (P:Program) (f:FuncId) (fn:Func) (s:ChangeSpec) (c:OpenClaim):Bool:=(P.stops==[])
abbrev jc7 (P:Program) (f:FuncId) (fn:Func) (s:ChangeSpec) (c:OpenClaim):Bool:=(c.knobs==[])
abbrev jc8 (P:Program) (f:FuncId) (fn:Func) (s:ChangeSpec) (c:OpenClaim):Bool:=(P.stopKnobs==[])
abbrev jc9 (P:Program) (f:FuncId) (fn:Func) (s:ChangeSpec) (c:OpenClaim):Bool:=(c.inPlace==P.inPlace f)
abbrev jc10 (P:Program) (f:FuncId) (fn:Func) (s:ChangeSpec) (c:OpenClaim):Bool:=(c.unfollowed==P.unfollowed f)
abbrev jc11 (P:Program) (f:FuncId) (fn:Func) (s:ChangeSpec) (c:OpenClaim):Bool:=(c.recurses==P.recurses f)
abbrev jc12 (P:Program) (f:FuncId) (fn:Func) (s:ChangeSpec) (c:OpenClaim):Bool:=(c.named==P.varsNamed f)
abbrev jc13 (P:Program) (f:FuncId) (fn:Func) (s:ChangeSpec) (c:OpenClaim):Bool:=(c.maps==(fn.params.toList++s.plain.varTypes P).any (P.mapsRec ·))
abbrev jc14 (P:Program) (f:FuncId) (fn:Func) (s:ChangeSpec) (c:OpenClaim):Bool:=(c.ifaces==(fn.params.toList++s.plain.varTypes P).any (P.ifacesRec ·))
abbrev jc15 (P:Program) (f:FuncId) (fn:Func) (s:ChangeSpec) (c:OpenClaim):Bool:=(c.mapsOut==P.mapsAmong fn.resultTypes.toList)
abbrev jc16 (P:Program) (f:FuncId) (fn:Func) (s:ChangeSpec) (c:OpenClaim):Bool:=(c.loops==(fn.params.toList++s.plain.varTypes P).any (P.loopsFrom ·))
abbrev jc17 (P:Program) (f:FuncId) (fn:Func) (s:ChangeSpec) (c:OpenClaim):Bool:=(c.wideKeys==(fn.params.toList++s.plain.varTypes P++fn.resultTypes.toList).any (P.wideKeysFrom ·))
abbrev jc18 (P:Program) (f:FuncId) (fn:Func) (s:ChangeSpec) (c:OpenClaim):Bool:=s.vars.all (P.varReadable ·)
abbrev jc19 (P:Program) (f:FuncId) (fn:Func) (s:ChangeSpec) (c:OpenClaim):Bool:=fn.resultTypes.all (fun t=>P.readableRec t&&decide (t<P.types.size))
abbrev jc20 (P:Program) (f:FuncId) (fn:Func) (s:ChangeSpec) (c:OpenClaim):Bool:=(c.ifacesOut==fn.resultTypes.toList.any (P.ifacesRec ·))
abbrev jc21 (P:Program) (f:FuncId) (fn:Func) (s:ChangeSpec) (c:OpenClaim):Bool:=(c.loopsOut==fn.resultTypes.toList.any (P.loopsFrom ·))
abbrev jc22 (P:Program) (f:FuncId) (fn:Func) (s:ChangeSpec) (c:OpenClaim):Bool:=(c.plainKeys==P.plainKeys)
abbrev jc23 (P:Program) (f:FuncId) (fn:Func) (s:ChangeSpec) (c:OpenClaim):Bool:=c.shortTexts.isNone
abbrev jc24 (P:Program) (f:FuncId) (fn:Func) (s:ChangeSpec) (c:OpenClaim):Bool:=P.stopsHeard
abbrev jc25 (P:Program) (f:FuncId) (fn:Func) (s:ChangeSpec) (c:OpenClaim):Bool:=P.mayEnter
abbrev jc26 (P:Program) (f:FuncId) (fn:Func) (s:ChangeSpec) (c:OpenClaim):Bool:=(c.lifted==P.liftsFinal)
abbrev jc27 (P:Program) (f:FuncId) (fn:Func) (s:ChangeSpec) (c:OpenClaim):Bool:=(P.make==some c.make)
abbrev jc28 (P:Program) (f:FuncId) (fn:Func) (s:ChangeSpec) (c:OpenClaim):Bool:=(c.kinds==(if c.domain.isEmpty then [] else fn.params.toList.map fun t=>match P.underlying t with | some (.int k)=>some k | _=>none))
abbrev jc29 (P:Program) (f:FuncId) (fn:Func) (s:ChangeSpec) (c:OpenClaim):Bool:=(c.pinned==c.pinnedBy)
abbrev jc30 (P:Program) (f:FuncId) (fn:Func) (s:ChangeSpec) (c:OpenClaim):Bool:=(c.veiled==(fn.params.toList++s.plain.varTypes P++fn.resultTypes.toList).any (P.veiledRec ·))
abbrev jc31 (P:Program) (f:FuncId) (fn:Func) (s:ChangeSpec) (c:OpenClaim):Bool:=c.veiledFits P fn.params.toList (fn.params.toList++s.plain.varTypes P++fn.resultTypes.toList)
theorem aE2 {a b:Bool} (h:a=true) (k:b=true):(a&&b)=true:=by rw [h,k];rfl
theorem jp1:jc1 prog 6 Tryz.f6 Rows.runAllowsWeakerDaemonsSpec Rows.runAllowsWeakerDaemonsRow=true:=by kernel_rfl
theorem jp2:jc2 prog 6 Tryz.f6 Rows.runAllowsWeakerDaemonsSpec Rows.runAllowsWeakerDaemonsRow=true:=by kernel_rfl
theorem jp6:jc6 prog 6 Tryz.f6 Rows.runAllowsWeakerDaemonsSpec Rows.runAllowsWeakerDaemonsRow=true:=by kernel_rfl
theorem jp8:jc8 prog 6 Tryz.f6 Rows.runAllowsWeakerDaemonsSpec Rows.runAllowsWeakerDaemonsRow=true:=by kernel_rfl
theorem jp22:jc22 prog 6 Tryz.f6 Rows.runAllowsWeakerDaemonsSpec Rows.runAllowsWeakerDaemonsRow=true:=by kernel_rfl
theorem jp24:jc24 prog 6 Tryz.f6 Rows.runAllowsWeakerDaemonsSpec Rows.runAllowsWeakerDaemonsRow=true:=by kernel_rfl
theorem jp25:jc25 prog 6 Tryz.f6 Rows.runAllowsWeakerDaemonsSpec Rows.runAllowsWeakerDaemonsRow=true:=by kernel_rfl
theorem jp26:jc26 prog 6 Tryz.f6 Rows.runAllowsWeakerDaemonsSpec Rows.runAllowsWeakerDaemonsRow=true:=by kernel_rfl
theorem jp27:jc27 prog 6 Tryz.f6 Rows.runAllowsWeakerDaemonsSpec Rows.runAllowsWeakerDaemonsRow=true:=by kernel_rfl
theorem bCb:prog.mainIs=some (Rows.runAllowsWeakerDaemonsCard.stood.harness.1,Rows.runAllowsWeakerDaemonsCard.stood.harness.2.toList):=by kernel_rfl
theorem bCa:false=prog.looks []:=by kernel_rfl
open Go.ChangeShapes Go.WideShapes Go.ChangeAt Go.RowKit Go.Deep
theorem Tryz.cells_ints:prog.cellsOf 26=1:=by kernel_rfl
theorem Tryz.cells_terms:prog.cellsOf 90=1:=by kernel_rfl
theorem Tryz.cells_str:prog.cellsOf 9=1:=by kernel_rfl
theorem Tryz.cells_link:prog.cellsOf 102=2:=by kernel_rfl
theorem Tryz.cells_links:prog.cellsOf 96=1:=by kernel_rfl
theorem Tryz.cells_ports:prog.cellsOf 27=1:=by kernel_rfl
theorem Tryz.cells_var:prog.cellsOf 100=6:=by kernel_rfl
theorem Tryz.cells_vars:prog.cellsOf 22=1:=by kernel_rfl
theorem Tryz.cells_set:prog.cellsOf 95=2:=by kernel_rfl
theorem Tryz.cells_sets:prog.cellsOf 91=1:=by kernel_rfl
theorem Tryz.cells_rule:prog.cellsOf 93=3:=by kernel_rfl
theorem Tryz.cells_rules:prog.cellsOf 23=1:=by kernel_rfl
theorem Tryz.cells_prg:prog.cellsOf 25=3:=by kernel_rfl
theorem Tryz.cells_graph:prog.cellsOf 29=2:=by kernel_rfl
section
variable {H:Type} {enc:TypeId × Value->H} {w:World} {base:Nat} {spare:Nat->Bool} {held:Bool}
def aOl (enc:TypeId × Value->H) (w:World) (base:Nat) (spare:Nat->Bool) (held:Bool) {α:Type} (e:TypeId) (size:Nat) (E:World->Nat->Nat->α->Prop):Prop :=
 ∀ n cs y b o,(∀ j,j<size->w.cell? ⟨b,o+j,none⟩=cs[j]?)->cs.length=size->DataW.trod enc prog w base spare held n e cs=some y->∃ x,E w b o x/\True
theorem aFy {α:Type} [Inhabited α] {t e:TypeId} {size:Nat} {E:World->Nat->Nat->α->Prop} (ht:prog.underlying t=some (.slice e)) (hC:prog.cellsOf e=size) (hsz:0<size)
  (hE:aOl enc w base spare held e size E):aOl enc w base spare held t 1 (aJ1 size E):=by
 intro n cs y b o hat hl h
 obtain ⟨A,n',c,xs,hcs,hr,_,h1,h2⟩:=aJu (E:=E) (Good:=fun _=>True) ht hC hsz hE h;subst hcs;have hn:=hr.1;subst hn;exact ⟨xs,⟨A,c,by simpa using hat 0 (by omega),hr,h1,h2⟩,trivial⟩
theorem aLw:aOl enc w base spare held 3 1 aHr:=fun n cs y b o h1 h2 h3=>by
 obtain ⟨x,hx,_⟩:=aU3 underlying3 n cs y b o h1 h2 h3;exact ⟨x,hx,trivial⟩
theorem aKk:aOl enc w base spare held 98 2 aJ4:=fun n cs y b o h1 h2 h3=>by
 obtain ⟨x,hx,_⟩:=aS6 n cs y b o h1 h2 h3;exact ⟨x,hx,trivial⟩
theorem aLf {α:Type} {f:TypeId} {k:Nat} {E:World->Nat->Nat->α->Prop} (hE:aOl enc w base spare held f 1 E) {m i n:Nat} {cs:List Value} {u:Value} {xs:List (DataW H × List MemPlace)} {b o:Nat}
  (h:DataW.trod enc prog w base spare held m f cs=xs[i]?) (hl:xs.length=n) (hi:i<n) (hcs:cs=[u]) (hat:w.cell? ⟨b,o+k,none⟩=some u):∃ x,E w b (o+k) x:=by
 obtain ⟨y,hy⟩:=aDo h hl hi hcs
 obtain ⟨x,hx,_⟩:=hE m [u] y b (o+k) (fun j hj=>by
  obtain rfl:j=0:=by omega
  exact hat) rfl hy
 exact ⟨x,hx⟩
theorem aGm {f:TypeId} (hf:prog.underlying f=some .string) {m i n:Nat} {cs:List Value} {u:Value} {xs:List (DataW H × List MemPlace)}
  (h:DataW.trod enc prog w base spare held m f cs=xs[i]?) (hl:xs.length=n) (hi:i<n) (hcs:cs=[u]):∃ s,u = .string s:=by
 obtain ⟨y,hy⟩:=aDo h hl hi hcs;obtain ⟨s,hc,_,_⟩:=DataW.trod_string hf hy;exact ⟨s,by simpa using hc⟩
theorem aBy {m i n:Nat} {cs:List Value} {u:Value} {xs:List (DataW H × List MemPlace)}
  (h:DataW.trod enc prog w base spare held m 3 cs=xs[i]?) (hl:xs.length=n) (hi:i<n) (hcs:cs=[u]):∃ x,u = .int .i64 x:=by
 obtain ⟨y,hy⟩:=aDo h hl hi hcs;obtain ⟨x,hx,_,_⟩:=DataW.trod_int underlying3 hy;exact ⟨x,by simpa using hx⟩
theorem aS2:aOl enc w base spare held 102 2 aMr:=by
 intro n cs y b o hat hl h
 obtain ⟨xs,m,_,_,_,hxl,hf⟩:=DataW.trod_struct underlying102 h
 match cs,hl with
 | [u,v],_ =>
  obtain ⟨x0,rfl⟩:=aBy (u:=u) (hf 0 _ rfl) hxl (by decide) (by simp [Tryz.cells_int])
  obtain ⟨x1,rfl⟩:=aBy (u:=v) (hf 1 _ rfl) hxl (by decide) (by simp [Tryz.cells_int])
  exact ⟨⟨x0,x1⟩,⟨by simpa using hat 0 (by omega),by simpa using hat 1 (by omega)⟩,trivial⟩
theorem aU5:aOl enc w base spare held 100 6 aVi:=by
 intro n cs y b o hat hl h
 obtain ⟨xs,m,_,_,_,hxl,hf⟩:=DataW.trod_struct underlying100 h
 match cs,hl with
 | [u0,u1,u2,u3,u4,u5],_ =>
  obtain ⟨s,rfl⟩:=aGm underlying9 (u:=u0) (hf 0 _ rfl) hxl (by decide) (by simp [Tryz.cells_str])
  obtain ⟨x1,rfl⟩:=aBy (u:=u1) (hf 1 _ rfl) hxl (by decide) (by simp [Tryz.cells_int])
  obtain ⟨x2,rfl⟩:=aBy (u:=u2) (hf 2 _ rfl) hxl (by decide) (by simp [Tryz.cells_int])
  obtain ⟨x3,rfl⟩:=aBy (u:=u3) (hf 3 _ rfl) hxl (by decide) (by simp [Tryz.cells_int])
  obtain ⟨x4,rfl⟩:=aBy (u:=u4) (hf 4 _ rfl) hxl (by decide) (by simp [Tryz.cells_int])
  obtain ⟨x5,rfl⟩:=aBy (u:=u5) (hf 5 _ rfl) hxl (by decide) (by simp [Tryz.cells_int])
  exact ⟨⟨s,x1,x2,x3,x4,x5⟩,⟨by simpa using hat 0 (by omega),by simpa using hat 1 (by omega),by simpa using hat 2 (by omega),by simpa using hat 3 (by omega),by simpa using hat 4 (by omega),by simpa using hat 5 (by omega)⟩,trivial⟩
theorem aU4:aOl enc w base spare held 95 2 aT8:=by
 intro n cs y b o hat hl h
 obtain ⟨xs,m,_,_,_,hxl,hf⟩:=DataW.trod_struct underlying95 h
 match cs,hl with
 | [u0,u1],_ =>
  obtain ⟨x0,rfl⟩:=aBy (u:=u0) (hf 0 _ rfl) hxl (by decide) (by simp [Tryz.cells_int])
  obtain ⟨x1,h1⟩:=aLf (k:=1) (u:=u1) (b:=b) (o:=o) (aFy underlying90 Tryz.cells_term (by decide) aKk) (hf 1 _ rfl) hxl (by decide) (by simp [Tryz.cells_terms]) (by simpa using hat 1 (by omega))
  exact ⟨⟨x0,x1⟩,⟨by simpa using hat 0 (by omega),h1⟩,trivial⟩
theorem aS5:aOl enc w base spare held 93 3 aR8:=by
 intro n cs y b o hat hl h
 obtain ⟨xs,m,_,_,_,hxl,hf⟩:=DataW.trod_struct underlying93 h
 match cs,hl with
 | [u0,u1,u2],_ =>
  obtain ⟨s,rfl⟩:=aGm underlying9 (u:=u0) (hf 0 _ rfl) hxl (by decide) (by simp [Tryz.cells_str])
  obtain ⟨x1,h1⟩:=aLf (k:=1) (u:=u1) (b:=b) (o:=o) (aFy underlying90 Tryz.cells_term (by decide) aKk) (hf 1 _ rfl) hxl (by decide) (by simp [Tryz.cells_terms]) (by simpa using hat 1 (by omega))
  obtain ⟨x2,h2⟩:=aLf (k:=2) (u:=u2) (b:=b) (o:=o) (aFy underlying91 Tryz.cells_set (by decide) aU4) (hf 2 _ rfl) hxl (by decide) (by simp [Tryz.cells_sets]) (by simpa using hat 2 (by omega))
  exact ⟨⟨s,x1,x2⟩,⟨by simpa using hat 0 (by omega),h1,h2⟩,trivial⟩
theorem aEb {α:Type} [Inhabited α] {t e:TypeId} {size:Nat} {E:World->Nat->Nat->α->Prop} (ht:prog.underlying t=some (.slice e)) (hC:prog.cellsOf e=size) (hsz:0<size)
  (hE:aOl enc w base spare held e size E) {fuel:Nat} {cs:List Value} {y:DataW H × List MemPlace} (h:DataW.trod enc prog w base spare held fuel t cs=some y) :
  ∃ (A:Option Addr) (c:Nat) (xs:List α),cs=[.slice A xs.length c]/\aAi size E w A xs.length xs/\xs.length<=c/\c<=maxLen:=by
 obtain ⟨A,n',c,xs,hcs,hr,_,h1,h2⟩:=aJu (E:=E) (Good:=fun _=>True) ht hC hsz hE h;have hn:=hr.1;subst hn;exact ⟨A,c,xs,hcs,hr,h1,h2⟩
theorem aPg {r:Reach} {b0:Nat} {v:Value} {d:DataW H} {p:List MemPlace} (h:DataW.Trod enc prog w base spare held 30 v d p) (hv:Value.okWide prog w r b0 30 v):∃ c:aA6,aAw w v c:=by
 obtain ⟨a,l,c',rfl⟩:=okWide_slice underlying30 hv;obtain ⟨fuel,h⟩:=h;obtain ⟨A,c,xs,hcs,hr,h1,h2⟩:=aEb underlying30 Tryz.cells_ints (by decide) (aFy underlying26 Tryz.cells_int (by decide) aLw) h
 exact ⟨xs,A,c,by simpa [Value.cells] using hcs,hr,h1,h2⟩
theorem aO0 {r:Reach} {b0:Nat} {v:Value} {d:DataW H} {p:List MemPlace} (h:DataW.Trod enc prog w base spare held 29 v d p) (hv:Value.okWide prog w r b0 29 v):∃ g:Graph,aAn w v g:=by
 obtain ⟨cs,rfl,hsz⟩:=okWide_struct underlying29 hv;obtain ⟨l⟩:=cs;rw [Tryz.cells_graph] at hsz
 match l,hsz with
 | [u,v],_ =>
  obtain ⟨fuel,hf⟩:=h;obtain ⟨xs,m,_,_,_,hxl,hf⟩:=DataW.trod_struct underlying29 hf;obtain ⟨y0,h0⟩:=aDo (us:=[u]) (hf 0 _ rfl) hxl (by decide) (by simp [Tryz.cells_ints,Value.cells])
  obtain ⟨y1,h1⟩:=aDo (us:=[v]) (hf 1 _ rfl) hxl (by decide) (by simp [Tryz.cells_ints,Tryz.cells_ports,Value.cells])
  obtain ⟨A,c,ids,e0,a1,a2,a3⟩:=aEb underlying26 Tryz.cells_int (by decide) aLw h0
  obtain ⟨A2,c2,ports,e1,b1,b2,b3⟩:=aEb underlying27 Tryz.cells_links (by decide) (aFy underlying96 Tryz.cells_link (by decide) aS2) h1
  obtain rfl:u=_:=by simpa using e0
  obtain rfl:v=_:=by simpa using e1
  exact ⟨⟨ids,ports⟩,A,c,A2,c2,rfl,a1,a2,a3,b1,b2,b3⟩
theorem aS4 {r:Reach} {b0:Nat} {v:Value} {d:DataW H} {p:List MemPlace} (h:DataW.Trod enc prog w base spare held 25 v d p) (hv:Value.okWide prog w r b0 25 v):∃ q:Prg,aEi w v q:=by
 obtain ⟨cs,rfl,hsz⟩:=okWide_struct underlying25 hv;obtain ⟨l⟩:=cs;rw [Tryz.cells_prg] at hsz
 match l,hsz with
 | [s,u,v],_ =>
  obtain ⟨fuel,hf⟩:=h;obtain ⟨xs,m,_,_,_,hxl,hf⟩:=DataW.trod_struct underlying25 hf;obtain ⟨nm,rfl⟩:=aGm underlying9 (u:=s) (hf 0 _ rfl) hxl (by decide) (by simp [Tryz.cells_str,Value.cells])
  obtain ⟨y0,h0⟩:=aDo (us:=[u]) (hf 1 _ rfl) hxl (by decide) (by simp [Tryz.cells_str,Tryz.cells_vars,Value.cells])
  obtain ⟨y1,h1⟩:=aDo (us:=[v]) (hf 2 _ rfl) hxl (by decide) (by simp [Tryz.cells_str,Tryz.cells_vars,Tryz.cells_rules,Value.cells])
  obtain ⟨A,c,vars,e0,a1,a2,a3⟩:=aEb underlying22 Tryz.cells_var (by decide) aU5 h0
  obtain ⟨A2,c2,rules,e1,b1,b2,b3⟩:=aEb underlying23 Tryz.cells_rule (by decide) aS5 h1
  obtain rfl:u=_:=by simpa using e0
  obtain rfl:v=_:=by simpa using e1
  exact ⟨⟨nm,vars,rules⟩,A,c,A2,c2,rfl,a1,a2,a3,b1,b2,b3⟩
end
end Go.Proofs.YtdcjnhoabbdanaaGreatDoor

