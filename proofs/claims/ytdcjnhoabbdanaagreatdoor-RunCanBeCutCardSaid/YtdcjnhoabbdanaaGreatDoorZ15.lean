/- Merged. -/
import Derived.RangeFuncNested
import Derived.RangeFuncBound
import Derived.RangeFuncCalls
import Derived.RangeFuncLeaves
import Derived.Shelf.Abstract
import Derived.Shelf.RegionOpen
import Derived.WalkKit
import Derived.OwnWalkIn
import Derived.TacticsInMore
import Derived.LoopNIn
import Derived.LoopIn
import Derived.RangeFuncBox
import Derived.Test.YtdcjnhoabbdanaaGreatDoorZ13
import Derived.Test.YtdcjnhoabbdanaaGreatDoorZ14
set_option linter.unusedSimpArgs false
set_option linter.unnecessarySimpa false
set_option linter.unusedVariables false
set_option maxRecDepth 100000
set_option maxHeartbeats 2000000
open Go.Proofs.Tryz

namespace Go.Proofs.YtdcjnhoabbdanaaGreatDoor
open Go.RowKit
attribute [local go_sem] Oper.semAt_some
theorem aG7 (S:Nat) (w:World) :
  Calls prog 96 #[.int .u32 (S:Int)] w fun e w'=>e = .returned (.func (.func 119) #[] #[.pointer (some ⟨w.heap.size,0,none⟩)])/\w'=w.alloc (.cells #[.int .u32 (S:Int)] 34):=by
 go_enter func96,ntmps96;go_wp2;go_ret;exact ⟨rfl,rfl⟩
theorem aC3.same {A B:World} (h:aC3 A) (hs:A.heap.size<=B.heap.size) (hb:B.heap[0]?=A.heap[0]?):aC3 B :=
 ⟨Nat.lt_of_lt_of_le h.1 hs,fun i hi=>(World.cell?_of_block hb).trans (h.2 i hi)⟩
def bA6 (w:World) (B:Nat):Nat:=match w.cell? ⟨B,0,none⟩ with | some (.int _ x)=>x.toNat | _=>0
theorem aMd (n:Nat) (B S:Nat) (w:World) (hn:1<=n) (hS:S<4294967296) (hB:Boxed w B 34 (.int .u32 (S:Int))) (hT:aC3 w) :
  bA5 Fence.wide n prog 119 #[.pointer (some ⟨B,0,none⟩)] (fun v:Nat=>#[.int .i64 (v:Int)]) (fun k=>k=B) (fun k=>k=0) (aAe S) w:=by
 intro l J Jx W hW hJ hJx hY h0
 refine callsIn_of_wp func119 rfl trivial ?_ rfl
 simp only [ntmps119,List.size_toArray,List.length_cons,List.length_nil,Nat.reduceAdd,Nat.reduceSub,Array.replicate_succ,Array.replicate_zero,List.push_toArray,List.append_toArray,List.nil_append,List.cons_append]
 gi_wp2
 gi_loopw [] (fun wr=>∃ (pre:List Nat) (cur:Nat),Hid (Boxed wr B 34 (.int .u32 (cur:Int)))/\Hid (aC3 wr)/\Hid (pre++aAe cur=aAe S)/\Hid (cur<4294967296)/\Hid (J pre wr)) (fun wr=>bA6 wr B)
 case atStart=>exact ⟨[],S,by show Boxed _ _ _ _;exact (hW.block B hB.lt).trans hB,hT.keep hW,by show []++_=_;rfl,hS,h0⟩
 case round =>
  clear h0 hS hB hT;obtain ⟨pre,cur,HX,HT,HP,HC,HJ⟩:=hrel;have hc:=HX.out.cell;have hf:=HX.out.frozen;have hl:=HX.out.lt
  by_cases hz:cur=0
  .have hb:((cur:Int) != 0)=false:=by simp;exact hz
   have HZ:=aA0 hz;clear hz
   gi_wp2
   go_end0
   have h:=HP.out;rw [HZ.out,aIh,List.append_nil] at h;exact ⟨⟨_,rfl⟩,.inl (by rw [<- h];exact HJ.out)⟩
  .have hb:((cur:Int) != 0)=true:=by simp;exact hz
   obtain ⟨k,m,e1,hk,_,e2,e3⟩:=aEc HC.out hz
   have q:bits .and .u32 (cur:Int) (((cur:Int)-1) % 4294967296)=((2 ^ k*(2*m):Nat):Int):=by
    rw [show ((cur:Int)-1) % 4294967296=((cur-1:Nat):Int) by have:=HC.out;omega,aCi HC.out (by have:=HC.out;omega),e2]
   have hlt:2 ^ k*(2*m)<cur:=by
    have:2 ^ k*(2*m)+2 ^ k=cur:=by rw [e1,Nat.mul_add,Nat.mul_one]
    have:=Nat.two_pow_pos k;omega
   have HQ:Hid (pre++[k]++aAe (2 ^ k*(2*m))=aAe S):=by
    have:=HP.out;rw [e3] at this;show _=_
    rw [List.append_assoc];exact this
   have hpre:pre++[k] <+: aAe S:=⟨_,HQ.out⟩;obtain ⟨fn,tmps,assign,body,hy,hR⟩:=hY pre k wr hpre HJ.out;generalize 2 ^ k*(2*m)=nx at q hlt HQ;have HE1:=aA0 e1;have HLT:=aA0 hlt;have HZ:=aA0 hz;clear e1 e2 e3 hz hlt hpre hk
   gi_wp2_with (refine ⟨trivial,?_⟩;gi_at_call 120;refine (callsIn_wide.2 (bAh cur k m _ HT.out HC.out HE1.out)).mono ?_;rintro e w' ⟨rfl,rfl⟩)
   refine hR.mono ?_
   rintro e w' (⟨rfl,hJ',hs⟩ | ⟨rfl,hJx'⟩)
   .have hbx:Boxed w' B 34 (.int .u32 (cur:Int)):=(hs.2 B HX.out.lt (.inl rfl)).trans HX.out
    have HT':Hid (aC3 w'):=HT.out.same hs.1 (hs.2 _ HT.out.1 (.inr rfl));have hc':=hbx.cell;have hf':=hbx.frozen;have hl':=hbx.lt;have HX':=aA0 hbx;have HJ':=aA0 hJ';clear hbx hJ' hs hc hf hl
    gi_wp2
    go_roundw
    case rel =>
     refine ⟨pre++[k],nx,HX'.out.set _,HT'.out.same (by simp) (Below.heap_setCell _ _ _ _ ?_),HQ.out,by have:=HC.out;have:=HLT.out;show _<_;omega,hJ _ _ _ HJ'.out (Agr.setCell _ _ _ rfl)⟩
     have h1:=HX'.out;have h2:=HT'.out.2 0 (by decide)
     intro e
     simp only at e
     subst e;rw [h1.cell] at h2;cases h2
    case measure =>
     have e1:bA6 wr B=cur:=by unfold bA6;rw [HX.out.cell];simp
     have e2:∀ W:World,Boxed W B 34 (.int .u32 (nx:Int))->bA6 W B=nx:=fun W h=>by unfold bA6;rw [h.cell];simp
     rw [e1,e2 _ (HX'.out.set _)];exact HLT.out
   .gi_wp2
    refine bodyPost_ret (results_none rfl _ _ _) rfl ?_
    exact ⟨⟨_,rfl⟩,.inr ⟨pre++[k],⟨_,HQ.out⟩,hJx'⟩⟩
end Go.Proofs.YtdcjnhoabbdanaaGreatDoor

namespace Go.Proofs.YtdcjnhoabbdanaaGreatDoor
def aGo (g:Graph) (c:aA5) (v:Nat) (e:List Term):Bool:=aBk g c v (-1) (aAp e) != 0
def aD3 (rs:List Rule) (g:Graph) (c:aA5) (v:Nat):Int:=match rs.findIdx? (fun r=>aGo g c v r.guard) with | some i=>(i:Int) | none => -1
theorem aPm {rs:List Rule} {g:Graph} {c:aA5} {v j:Nat} (h:j<rs.length) (ha:(rs.take j).all (fun r => !(aGo g c v r.guard))=true) (hj:aGo g c v rs[j].guard=true):aD3 rs g c v=(j:Int):=by
 unfold aD3
 have:rs.findIdx? (fun r=>aGo g c v r.guard)=some j:=by
  rw [List.findIdx?_eq_some_iff_getElem];refine ⟨h,hj,fun k hk=>?_⟩
  have:=List.all_eq_true.1 ha rs[k] (by rw [List.mem_take_iff_getElem];exact ⟨k,by omega,rfl⟩)
  simpa using this
 rw [this]
theorem aRm {rs:List Rule} {g:Graph} {c:aA5} {v:Nat} (ha:rs.all (fun r => !(aGo g c v r.guard))=true):aD3 rs g c v = -1:=by
 unfold aD3
 have:rs.findIdx? (fun r=>aGo g c v r.guard)=none:=by
  rw [List.findIdx?_eq_none_iff];intro x hx
  have:=List.all_eq_true.1 ha x hx;simpa using this
 rw [this]
theorem aKk (rs:List Rule) (g:Graph) (c:aA5) (v:Nat) :
  (aD3 rs g c v = -1/\∀ r∈rs,aGo g c v r.guard=false) ∨
  ∃ k:Nat,∃ hk:k<rs.length,aD3 rs g c v=(k:Int)/\aGo g c v rs[k].guard=true/\∀ i (hi:i<k),aGo g c v rs[i].guard=false:=by
 unfold aD3;cases hf:rs.findIdx? (fun r=>aGo g c v r.guard) with
 | none =>
  left
  rw [List.findIdx?_eq_none_iff] at hf;exact ⟨rfl,fun r hr=>by simpa using hf r hr⟩
 | some k =>
  right
  rw [List.findIdx?_eq_some_iff_getElem] at hf;obtain ⟨hk,h1,h2⟩:=hf;exact ⟨k,hk,rfl,h1,fun i hi=>by simpa using h2 i hi⟩
theorem aPn (rs:List Rule) (g:Graph) (c:aA5) (v:Nat) : -1<=aD3 rs g c v/\aD3 rs g c v<rs.length:=by
 rcases aKk rs g c v with ⟨h,_⟩ | ⟨k,hk,h,_⟩ <;> omega
def aKh (kind:Int) (b:Int × Int) (x:Int):Int:=if b.1<=x/\x<=b.2 then x else if kind=3 then -1 else if x<b.1 then b.1 else b.2
def aX5 (p:Prg) (x:Int):Var:=p.vars.getD x.toNat default
def aKw (p:Prg) (g:Graph) (c:aA5) (v:Nat) (t:SetT):Int:=aKh (aX5 p t.var).kind (aAj (aX5 p t.var) g v) (aBk g c v (-1) (aAp t.value))
def aDh (p:Prg) (g:Graph) (c:aA5) (v:Nat) (l:List SetT):List Int:=l.foldl (fun s t=>s.set t.var.toNat (aKw p g c v t)) (c.getD v [])
def aWm (p:Prg) (k:Int):Rule:=p.rules.getD k.toNat default
def aOl (p:Prg) (g:Graph) (c:aA5) (v:Nat):List Int:=aDh p g c v (aWm p (aD3 p.rules g c v)).sets
def aAk (p:Prg) (g:Graph) (c:aA5):Nat:=aD8 c.length fun v=>decide (0<=aD3 p.rules g c v)
def aBi (p:Prg) (g:Graph) (c:aA5) (S:Nat):aA5:=(List.range c.length).map fun v=>if S.testBit v then aOl p g c v else c.getD v []
def aWt (p:Prg) (g:Graph) (c:aA5) (S:Nat):aA5 × Int :=
 if aD5 p g c≠0 then ([],aD5 p g c) else if S=0∨aB1 S (aAk p g c)=false then ([],11) else (aBi p g c S,0)
theorem aOn (p:Prg) (g:Graph) (c:aA5) (v:Nat) (l:List SetT):(aDh p g c v l).length=(c.getD v []).length:=by
 unfold aDh
 suffices ∀ s:List Int,(l.foldl (fun s t=>s.set t.var.toNat (aKw p g c v t)) s).length=s.length from this _
 induction l with
 | nil=>intro s;rfl
 | cons t l ih=>intro s;rw [List.foldl_cons,ih];simp
theorem aS0 (p:Prg) (g:Graph) (c:aA5) (v:Nat) (l:List SetT) (j:Nat) (h:j<l.length):aDh p g c v (l.take (j+1))=(aDh p g c v (l.take j)).set l[j].var.toNat (aKw p g c v l[j]):=by
 unfold aDh;rw [List.take_succ_eq_append_getElem h,List.foldl_append];rfl
theorem aRn {p:Prg} {g:Graph} (hf:aH1 p g=0) {x:Var} (hx:x∈p.vars) (v:Nat):(aAj x g v).1<=(aAj x g v).2/\(x.kind=3->(aAj x g v).1 = -1):=by
 obtain ⟨h1,h2,h3⟩:=aAt hf;have h4:=List.all_eq_true.1 h3 x hx;have h5:=aDr (List.all_eq_true.1 (aBj h1).1 x hx);unfold aG4 at h4;have h4:=of_decide_eq_true h4;unfold aAj at h4 ⊢
 rcases h5 with h | h | h
 .rw [if_pos h.1];simp;omega
 .rw [if_neg (by omega),if_pos h.1];simp;omega
 .have hk:=h.1
  rw [if_neg (by omega),if_neg (by omega)] at h4 ⊢
  dsimp only at h4 ⊢;omega
theorem aPa {kind:Int} {b:Int × Int} (h:b.1<=b.2) (hk:kind=3->b.1 = -1) (x:Int):b.1<=aKh kind b x/\aKh kind b x<=b.2:=by
 unfold aKh;split
 .assumption
 split
 .have:=hk (by assumption);omega
 split <;> omega
theorem aT9 {p:Prg} (hc:aB8 p=0) {r:Rule} (hr:r∈p.rules) {s:SetT} (hs:s∈r.sets):(aAp s.value).ok/\(aAp s.value).terms=s.value/\(∀ t∈s.value,aFo t p.vars.length=true)/\aBg false (aAp s.value)/\0<=s.var/\s.var<=(p.vars.length:Int)-1:=by
 obtain ⟨h1,_,h3,_,_,h6,h7⟩:=aBj hc;obtain ⟨hv,hval⟩:=(h6 r hr).sets s hs;obtain ⟨t1,t2,_,t4,_,_⟩:=aEe hval;refine ⟨t1,t2,t4,aNl (kinds:=aB7 p) (b:=false) ?_,hv.1,hv.2⟩
 have h8:=h7 r hr;unfold aBq at h8;simp only [Bool.and_eq_true,List.all_eq_true,beq_iff_eq] at h8
 rw [h8.2 s hs];obtain ⟨x,hx⟩:=Int.eq_ofNat_of_zero_le hv.1;rw [hx,Int.toNat_natCast,aA8 (by rw [aCu];omega)]
 have:=aM7 h1;have hk:=List.all_eq_true.1 this _ (List.getElem_mem (show x<(aB7 p).length by rw [aCu];omega))
 unfold aDo at hk;simp at hk
 omega
theorem aLr {p:Prg} {g:Graph} {c:aA5} (hm:aD5 p g c=0) {v:Nat} (hv:v<c.length):aDv (aHu p g v) (c.getD v [])=true:=by
 obtain ⟨_,h2⟩:=aB6 hm;obtain ⟨h3,h4⟩:=aC4.1 h2;have:=h4 v hv (by omega)
 rw [aEd] at this
 rwa [aA8 hv]
theorem aPz {p:Prg} {g:Graph} {c d:aA5} (hm:aD5 p g c=0) (hl:d.length=c.length) (h:∀ v,v<d.length->aDv (aHu p g v) (d.getD v [])=true):aD5 p g d=0:=by
 obtain ⟨h1,h2⟩:=aB6 hm
 have h3:aG2 (aAo p g) d=true:=by
  rw [aC4];refine ⟨by rw [hl];exact (aC4.1 h2).1,fun v a b=>?_⟩
  rw [aEd];have:=h v a
  rwa [aA8 a] at this
 unfold aD5;rw [if_neg (by simpa using h1),h3];simp
theorem aIw {p:Prg} {g:Graph} {c:aA5} (hm:aD5 p g c=0):c.length=g.ports.length:=by
 obtain ⟨h1,h2⟩:=aB6 hm;rw [(aC4.1 h2).1,aCd,(aAt h1).2.1.ids]
theorem aZq {p:Prg} {g:Graph} {c:aA5} (hm:aD5 p g c=0) {v:Nat} (hv:v<c.length):(c.getD v []).length=p.vars.length:=by
 rw [(aBv.1 (aLr hm hv)).1,aBp]
theorem aYq {p:Prg} {x:Int} (h0:0<=x) (h1:x<=(p.vars.length:Int)-1):∃ i:Nat,∃ hi:i<p.vars.length,x=(i:Int)/\x.toNat=i/\aX5 p x=p.vars[i]:=by
 obtain ⟨i,rfl⟩:=Int.eq_ofNat_of_zero_le h0;exact ⟨i,by omega,rfl,Int.toNat_natCast i,by unfold aX5;rw [Int.toNat_natCast];exact aA8 (by omega)⟩
theorem aS1 {p:Prg} {g:Graph} {c:aA5} (hm:aD5 p g c=0) {v:Nat} (hv:v<c.length) {l:List SetT} (hl:∀ s∈l,0<=s.var/\s.var<=(p.vars.length:Int)-1):aDv (aHu p g v) (aDh p g c v l)=true:=by
 have hf:=(aB6 hm).1;unfold aDh
 suffices ∀ s:List Int,aDv (aHu p g v) s=true->aDv (aHu p g v) (l.foldl (fun s t=>s.set t.var.toNat (aKw p g c v t)) s)=true from this _ (aLr hm hv)
 induction l with
 | nil=>intro s h;exact h
 | cons t l ih =>
  intro s h
  rw [List.foldl_cons];refine ih (fun s hs=>hl s (by simp [hs])) _ ?_
  obtain ⟨h0,h1⟩:=hl t (by simp)
  obtain ⟨i,hi,_,ei,ev⟩:=aYq h0 h1;rw [ei];obtain ⟨a1,a2⟩:=aBv.1 h;rw [aBv];refine ⟨by simpa using a1,fun k b1 b2=>?_⟩
  by_cases hk:i=k
  .subst hk
   rw [List.getElem_set_self,aOz];unfold aKw;rw [ev];obtain ⟨q1,q2⟩:=aRn hf (List.getElem_mem hi) v;exact aPa q1 q2 _
  .rw [List.getElem_set_ne hk]
   exact a2 k (by simpa using b1) b2
theorem aWn {p:Prg} (hc:aB8 p=0) {k:Nat} (hk:k<p.rules.length):∀ s∈p.rules[k].sets,0<=s.var/\s.var<=(p.vars.length:Int)-1:=fun s hs=>by
 obtain ⟨_,_,_,_,h5,h6⟩:=aT9 hc (List.getElem_mem hk) hs;exact ⟨h5,h6⟩
theorem aQp {p:Prg} {k:Nat} (hk:k<p.rules.length):aWm p (k:Int)=p.rules[k]:=by
 unfold aWm;rw [Int.toNat_natCast];exact aA8 hk
theorem aU6 {p:Prg} {g:Graph} {c:aA5} (hm:aD5 p g c=0) {v:Nat} (hv:v<c.length) (hen:0<=aD3 p.rules g c v):aDv (aHu p g v) (aOl p g c v)=true:=by
 rcases aKk p.rules g c v with ⟨h,_⟩ | ⟨k,hk,h,_⟩
 .omega
 .unfold aOl
  rw [h,aQp hk];exact aS1 hm hv (aWn (aAt (aB6 hm).1).1 hk)
theorem aEn (p:Prg) (g:Graph) (c:aA5) (S:Nat):(aBi p g c S).length=c.length:=by simp [aBi]
theorem aWs (p:Prg) (g:Graph) (c:aA5) (S:Nat) {v:Nat} (hv:v<c.length):(aBi p g c S).getD v []=if S.testBit v then aOl p g c v else c.getD v []:=by
 rw [aA8 (by rw [aEn];exact hv)]
 simp [aBi]
theorem aPj {p:Prg} {g:Graph} {c:aA5} {v:Nat}:(aAk p g c).testBit v=(decide (v<c.length)&&decide (0<=aD3 p.rules g c v)):=aHw _ _ _
theorem aTa {p:Prg} {g:Graph} {c:aA5} (hm:aD5 p g c=0) {S:Nat} (hS:∀ v,v<c.length->S.testBit v=true->0<=aD3 p.rules g c v):aD5 p g (aBi p g c S)=0:=by
 refine aPz hm (aEn _ _ _ _) fun v hv=>?_
 rw [aEn] at hv;rw [aWs p g c S hv];cases hb:S.testBit v with
 | true=>exact aU6 hm hv (hS v hv hb)
 | false=>exact aLr hm hv
def aZm (g:Graph) (S:Nat):Nat:=aD8 g.ports.length fun v=>(g.ports.getD v []).any fun l=>aPu S l.to
def aNk (g:Graph) (S:Nat):Bool:=aD4 g&&aB1 S (aD8 g.ports.length fun _=>true)&&(List.range 32).all fun v => !((aZm g S).testBit v&&S.testBit v)
open Go.RowKit
theorem aBc.cells {w:World} {A:Option Addr} {l:List Int} (h:aBc w A l.length l):aP6 w 1 A l.length (l.map (Value.int .i64)):=by
 refine ⟨by simp,fun j u hu=>?_⟩
 rw [List.getElem?_map] at hu;cases hx:l[j]? with
 | none=>rw [hx] at hu;cases hu
 | some x =>
  rw [hx] at hu;obtain rfl:Value.int .i64 x=u:=by simpa using hu
  obtain ⟨b,o,e,_,hc⟩:=h.2 j x hx;exact ⟨b,o,e,by simpa [aGp] using hc⟩
theorem aJ2 (l:List Int):∀ u∈l.map (Value.int .i64),u.oneCell'=true:=by
 intro u hu
 obtain ⟨x,_,rfl⟩:=List.mem_map.1 hu;rfl
def Off (g:Nat) (A:Option Addr):Prop:=∀ b o,A=some ⟨b,o,none⟩->b≠g
theorem aBc.other {w:World} {A:Option Addr} {l:List Int} {g v:Nat} {x:Value} (h:aBc w A l.length l) (ho:Off g A):aBc (w.setCell ⟨g,v,none⟩ x) A l.length l:=by
 refine ⟨rfl,fun i y hy=>?_⟩
 obtain ⟨b,o,rfl,hb,hc⟩:=h.2 i y hy
 exact ⟨b,o,rfl,by simpa using hb,by
  unfold aGp at *;rw [((Fr.refl g w).set v x).cell hb (ho b o rfl)];exact hc⟩
structure OwnC (w:World) (base g cap:Nat) (d:aA5) (hs:List Value):Prop where
 own:w.ownsRow base 26 1 (.slice (some ⟨g,0,none⟩) d.length cap) d.length hs
 rows:∀ u (hu:u<d.length),∃ R c',hs[u]?=some (.slice R d[u].length c')/\aBc w R d[u].length d[u]/\d[u].length<=c'/\c'<=maxLen/\Off g R
theorem OwnC.keep {w w':World} {base g cap:Nat} {d:aA5} {hs:List Value} (h:OwnC w base g cap d hs) (k:Bel w w'):OwnC w' base g cap d hs :=
 ⟨k.owns h.own,fun u hu=>by
  obtain ⟨R,c',h1,h2,h3⟩:=h.rows u hu;exact ⟨R,c',h1,h2.keep k,h3⟩⟩
theorem OwnC.conf {w:World} {base g cap:Nat} {d:aA5} {hs:List Value} (h:OwnC w base g cap d hs):aAr w (.slice (some ⟨g,0,none⟩) d.length cap) d:=by
 obtain ⟨h1,h2⟩:=aF0 h.own;refine ⟨_,_,rfl,⟨rfl,fun u x hx=>?_⟩,h1,h2⟩
 have hu:u<d.length:=(List.getElem?_eq_some_iff.1 hx).1;have hxe:d[u]=x:=(List.getElem?_eq_some_iff.1 hx).2;obtain ⟨R,c',k1,k2,k3,k4,_⟩:=h.rows u hu;obtain ⟨g',e1,_,hlt,hc,_⟩:=aCz h.own k1;obtain rfl:g=g':=by simpa using e1
 subst hxe;exact ⟨g,0,rfl,hlt,R,c',by rw [Nat.zero_add,Nat.mul_one];exact hc,k2,k3,k4⟩
theorem OwnC.set {w:World} {base g cap:Nat} {d:aA5} {hs:List Value} (h:OwnC w base g cap d hs) {v:Nat} {l:List Int} {A:Option Addr} {c':Nat} (hv:v<d.length) (hl:aBc w A l.length l) (h1:l.length<=c') (h2:c'<=maxLen) (ho:Off g A) :
  OwnC (w.setCell ⟨g,v,none⟩ (.slice A l.length c')) base g cap (d.set v l) (hs.set v (.slice A l.length c')):=by
 have hlen:hs.length=d.length:=by have:=h.own.1;omega
 refine ⟨by rw [List.length_set];exact (h.own.stored v _).1,fun u hu=>?_⟩
 rw [List.length_set] at hu
 by_cases he:v=u
 .subst he
  rw [List.getElem_set_self];exact ⟨A,c',List.getElem?_set_self (by omega),hl.other ho,h1,h2,ho⟩
 .rw [List.getElem_set_ne he]
  obtain ⟨R,c2,k1,k2,k3,k4,k5⟩:=h.rows u hu;exact ⟨R,c2,by rw [List.getElem?_set_ne he];exact k1,k2.other k5,k3,k4,k5⟩
def aTe (w:World) (B:Nat) (A:Option Addr) (c:Nat) (l:List Int):Prop:=aBc w A l.length l/\l.length<=c/\c<=maxLen/\∀ b o,A=some ⟨b,o,none⟩->B<=b/\b<w.heap.size
theorem aTe.off {w:World} {B:Nat} {A:Option Addr} {c:Nat} {l:List Int} (h:aTe w B A c l) {g:Nat} (hg:g<B):Off g A:=fun b o e=>by have:=h.2.2.2 b o e;omega
theorem aTe.keep {w w':World} {B:Nat} {A:Option Addr} {c:Nat} {l:List Int} (h:aTe w B A c l) (k:Bel w w'):aTe w' B A c l:=⟨h.1.keep k,h.2.1,h.2.2.1,fun b o e=>⟨(h.2.2.2 b o e).1,Nat.lt_of_lt_of_le (h.2.2.2 b o e).2 k.size⟩⟩
theorem aTe.gr {w w':World} {B:Nat} {A:Option Addr} {c:Nat} {l:List Int} {row:Option Nat} (h:aTe w B A c l) (hg:Gr row w w') (ho:∀ b o,A=some ⟨b,o,none⟩->some b≠row):aTe w' B A c l :=
 ⟨⟨rfl,fun i x hx=>by
  obtain ⟨b,o,e,hb,hc⟩:=h.1.2 i x hx;exact ⟨b,o,e,Nat.lt_of_lt_of_le hb hg.1,(hg.cell hb (ho b o e)).trans hc⟩⟩,h.2.1,h.2.2.1,fun b o e=>⟨(h.2.2.2 b o e).1,Nat.lt_of_lt_of_le (h.2.2.2 b o e).2 hg.1⟩⟩
theorem aOw {w:World} {base:Nat} {e:TypeId} {A:Option Addr} {n c:Nat} {l:List Int} (h:w.ownsRow base e 1 (.slice A n c) n (l.map (Value.int .i64))):n=l.length/\aTe w base A c l:=by
 have hn:n=l.length:=by have:=h.1;simp at this;omega
 subst hn;obtain ⟨h1,h2⟩:=aF0 h;refine ⟨rfl,aLf h,h1,h2,fun b o e=>?_⟩
 subst e
 rcases h.2 with ⟨hv,_⟩ | ⟨g',cap,cur,hv,hb,hg,_⟩
 .cases hv
 .injection hv with hA;injection hA with hA;injection hA with hA;subst hA;exact ⟨hb,lt_of_block hg⟩
theorem aWc (A:Option Addr) (n c:Nat):∀ u∈(#[Value.slice A n c]:Array Value).toList,u.oneCell'=true:=by simp [Value.oneCell']
def aZ5 (l:List Int) (w:World) (e:Ending) (w':World):Prop:=∃ A c,e = .returned (.slice A l.length c)/\aTe w' w.heap.size A c l/\Bel w w'
def aIs (N:Nat) (w:World) (hs:List Value):Prop:=∀ v∈hs,∀ b o n c,v = .slice (some ⟨b,o,none⟩) n c->N<=b/\b<w.heap.size
theorem aIs.size {N:Nat} {w w':World} {hs:List Value} (h:aIs N w hs) (k:w.heap.size<=w'.heap.size):aIs N w' hs:=fun v hv b o n c e=>⟨(h v hv b o n c e).1,Nat.lt_of_lt_of_le (h v hv b o n c e).2 k⟩
theorem aIs.zero (N n:Nat) (w:World):aIs N w (List.replicate n (.slice none 0 0)):=fun v hv b o n' c e=>by
 rw [List.eq_of_mem_replicate hv] at e;cases e
theorem aIs.set {N B:Nat} {w:World} {hs:List Value} (h:aIs N w hs) {A:Option Addr} {n c:Nat} {l:List Int} (hN:aTe w B A c l) (hB:N<=B) (i:Nat):aIs N w (hs.set i (.slice A n c)):=fun v hv b o n' c' e=>by
 rcases List.mem_or_eq_of_mem_set hv with hv | hv
 .exact h v hv b o n' c' e
 .subst hv
  injection e with e
  obtain ⟨h1,h2⟩:=hN.2.2.2 b o e;exact ⟨Nat.le_trans hB h1,h2⟩
theorem OwnC.newC {w W:World} {N g cap:Nat} {d:aA5} {hs:List Value} (h:OwnC w N g cap d hs) (hn:aIs N w hs) (k:aBl N w W):aAr W (.slice (some ⟨g,0,none⟩) d.length cap) d:=by
 refine OwnC.conf (base:=N) (hs:=hs) ⟨aT3 h.own k (aBf h.own).1,fun u hu=>?_⟩
 obtain ⟨R,c',h1,h2,h3⟩:=h.rows u hu;refine ⟨R,c',h1,⟨h2.1,fun i x hx=>?_⟩,h3⟩
 obtain ⟨b,o,e,hb,hc⟩:=h2.2 i x hx;subst e;obtain ⟨n1,n2⟩:=hn _ (List.mem_of_getElem? h1) b o _ _ rfl;exact ⟨b,o,rfl,Nat.lt_of_lt_of_le hb k.1,(k.cell n1 n2).trans hc⟩
def aV2 (d:aA5) (w:World) (e:Ending) (w':World):Prop:=∃ g cap hs,e = .returned (.slice (some ⟨g,0,none⟩) d.length cap)/\OwnC w' w.heap.size g cap d hs/\aIs w.heap.size w' hs/\Bel w w'
theorem OwnC.zero {w:World} {base g cap n:Nat} {hs:List Value} (h:w.ownsRow base 26 1 (.slice (some ⟨g,0,none⟩) n cap) n hs) (hs0:hs=List.replicate n (.slice none 0 0)):OwnC w base g cap (List.replicate n []) hs:=by
 refine ⟨by rw [List.length_replicate];exact h,fun u hu=>?_⟩
 rw [List.length_replicate] at hu;refine ⟨none,0,?_,?_,?_,?_,fun b o e=>by cases e⟩
 .subst hs0;rw [List.getElem_replicate];rw [List.getElem?_replicate,if_pos hu];rfl
 .rw [List.getElem_replicate];exact aAc.nil
 .rw [List.getElem_replicate];exact Nat.le_refl _
 .unfold maxLen;omega
def aLz (c:aA5) (k:Nat):aA5:=c.take k++List.replicate (c.length-k) []
theorem aGz (c:aA5) (k:Nat):(aLz c k).length=c.length:=by simp [aLz];omega
theorem aTq (c:aA5):aLz c 0=List.replicate c.length []:=by simp [aLz]
theorem aTo (c:aA5):aLz c c.length=c:=by simp [aLz]
theorem aSq (c:aA5) (k i:Nat):(aLz c k)[i]?=if i<c.length then some (if i<k then c.getD i [] else []) else none:=by
 unfold aLz;rw [List.getElem?_append]
 by_cases hi:i<c.length
 .rw [if_pos hi]
  by_cases hk:i<k
  .rw [if_pos hk,if_pos (by rw [List.length_take];omega),List.getElem?_take_of_lt hk,List.getElem?_eq_getElem hi,aA8 hi]
  .rw [if_neg hk,if_neg (by rw [List.length_take];omega),List.getElem?_replicate,if_pos (by rw [List.length_take];omega)]
 .rw [if_neg hi]
  by_cases hk:i<(c.take k).length
  .rw [List.length_take] at hk;omega
  .rw [if_neg hk,List.getElem?_replicate,if_neg (by rw [List.length_take] at *;omega)]
theorem aTp (c:aA5) (k:Nat) (h:k<c.length):(aLz c k).set k c[k]=aLz c (k+1):=by
 apply List.ext_getElem?
 intro i
 rw [List.getElem?_set,aSq,aSq,aGz]
 by_cases he:k=i
 .subst he
  rw [if_pos rfl,if_pos h,if_pos h,if_pos (by omega),aA8 h]
 .rw [if_neg he]
  by_cases hi:i<c.length
  .rw [if_pos hi,if_pos hi]
   by_cases hk:i<k
   .rw [if_pos hk,if_pos (by omega)]
   .rw [if_neg hk,if_neg (by omega)]
  .rw [if_neg hi,if_neg hi]
theorem aUl:(prog.info? 26).map (fun i=>(i.zero,i.size,i.bytes))=some (some (.slice none 0 0),1,24):=by kernel_rfl
theorem aPw:(prog.info? 3).map (fun i=>(i.zero,i.size,i.bytes))=some (some (.int .i64 0),1,8):=by kernel_rfl
theorem aH5 (v:Value) (c:aA5) (w:World) (h:aAr w v c) (hL:aBr c=true) :
  Calls prog 51 #[v] w (aV2 c w):=by
 obtain ⟨A,k,rfl,hR,_,_⟩:=h;have HR:=aA0 (fun w' (kk:Bel w w')=>hR.keep kk);obtain ⟨l1,l2⟩:=aB4 hL;have HL2:=aA0 l2;clear hR l2 hL;obtain ⟨i0,hi0,hz0,hz1,hz2⟩:=info_parts aUl;obtain ⟨j0,hj0,hy0,hy1,hy2⟩:=info_parts aPw;go_enter func51,ntmps51
 go_wp2_with (at_make;refine aF5 _ rfl 30 (.tmp 7) (.tmp 7) rfl w.heap.size 26 i0 (.slice none 0 0) 1 underlying30 hi0 hz0 hz1 .i64 .i64 c.length rfl rfl (by rw [hz2];omega) (by unfold maxLen;omega) (by simp) ?_;intro gb w1 hown hb;have HW:=hb;rw [aJ5 _ rfl] at hown;have HO:=aA0 (OwnC.zero hown rfl);clear hown hb)
 go_loopg [4,5,11] c.length (fun m _x _y z wr=>∃ (v:Nat) (hs:List Value),v<=c.length/\m=c.length-v/\z = .int .i64 v/\Hid (OwnC wr w.heap.size gb c.length (aLz c v) hs)/\Hid (aIs w.heap.size wr hs)/\Bel w wr)
 case atStart=>exact ⟨0,_,by omega,rfl,rfl,by show OwnC _ _ _ _ _ _;rw [aTq];exact HO.out,aIs.zero _ _ _,HW⟩
 case round =>
  clear HO HW;obtain ⟨v,hs,hv,rfl,rfl,HO,HSN,HW⟩:=hrel
  by_cases hlt:v<c.length
  .have hd0:decide (v<c.length)=true:=by simpa using hlt
   obtain ⟨b,o,R,rc,rfl,hbl,hcell,hI,_,_⟩:=(HR.out _ HW).at_ v hlt;have hle:=HL2.out _ (List.getElem_mem hlt);have HI:=aA0 hI;have HWZ:=aA0 HW.size;clear hI;have hbase:=aBf HO.out.own;have HSL:Hid (hs.length=c.length):=by have:=HO.out.own.1;rw [aGz] at this;show _=_;omega
   go_wp2_with (at_builtin;go_must (refine aJq _ rfl (.const (.slice none 0 0)) (.tmp 18) 26 rfl wr.heap.size 3 j0 (.int .i64 0) 1 8 underlying26 hj0 hy0 hy1 hy2 rfl (by decide) none 0 0 [] rfl (World.ownsRow_nil _ _ _ _) R c[v].length rc (c[v].map (Value.int .i64)) rfl HI.out.cells (aJ2 _) (by unfold maxLen;omega) (by omega) (Nat.le_refl _) ?_);intro A3 c3 w3 hown3 hgr3 _;rw [List.nil_append,Nat.zero_add] at hown3;have hb3:=(Bel.refl wr).grown hgr3 (fun k hk=>by cases hk);obtain ⟨_,hN⟩:=aOw hown3;have HN:=aA0 hN;have HO3:=aA0 (HO.out.keep hb3);have y1:=aH7 HO3.out.own v (by rw [HSL.out];omega);have y2:=HO3.out.own.frozenAt v;have ygb:=(aBf HO3.out.own).2;replace HW:=HW.trans hb3;have HSN3:=aA0 (HSN.out.size hb3.size);clear hown3 hgr3 hb3 hN)
   go_roundg (c.length-(v+1))
   case rel =>
    have h3:=HN.out;refine ⟨v+1,hs.set v (.slice A3 c[v].length c3),by omega,rfl,by go_num,?_,aIs.size (w:=w3) (HSN3.out.set h3 HWZ.out v) (by simp),HW.setCell (by simp;omega) _⟩
    show OwnC _ _ _ _ _ _
    rw [<- aTp c v hlt];simpa using HO3.out.set (v:=v) (l:=c[v]) (A:=A3) (c':=c3) (by rw [aGz];exact hlt) h3.1 h3.2.1 h3.2.2.1 (h3.off (by omega))
   case measure=>omega
  .have hd0:decide (v<c.length)=false:=by simpa using hlt
   obtain rfl:v=c.length:=by omega
   go_wp2_with fail
   go_ret;have hO:=HO.out;rw [aTo] at hO;exact ⟨gb,_,hs,rfl,hO,HSN.out,HW⟩
def aZz (S v:Nat) (b:Bool):Nat:=if b then S|||2 ^ v else S
theorem aZ7 {S v:Nat} (hS:S<4294967296) (hv:v<32) (b:Bool):aZz S v b<4294967296:=by
 unfold aZz;split
 .exact Nat.or_lt_two_pow (n:=32) hS (aJp hv)
 .exact hS
theorem aTh (S v:Nat):aZz S v true|||2 ^ v=aZz S v true:=by
 unfold aZz;rw [if_pos rfl,Nat.or_assoc,Nat.or_self]
def aR3 (ls:List Link):Nat:=ls.foldl (fun s l=>s|||2 ^ l.to.toNat) 0
def aIr (g:Graph) (v:Nat):Nat:=aR3 (g.ports.getD v [])
theorem aW5 (ls:List Link) (l:Link):aR3 (ls++[l])=aR3 ls|||2 ^ l.to.toNat:=by unfold aR3;rw [List.foldl_append];rfl
theorem aOp (ls:List Link) (u:Nat):∀ s:Nat,(ls.foldl (fun s l=>s|||2 ^ l.to.toNat) s).testBit u=(s.testBit u||ls.any fun l=>l.to.toNat==u):=by
 induction ls with
 | nil=>intro s;simp
 | cons l ls ih =>
  intro s
  rw [List.foldl_cons,ih,Nat.testBit_or,aEh,List.any_cons,Bool.or_assoc];rfl
theorem aSx (ls:List Link) (u:Nat):(aR3 ls).testBit u=ls.any fun l=>l.to.toNat==u:=by
 unfold aR3;rw [aOp,Nat.zero_testBit,Bool.false_or]
theorem aW4 {ls:List Link} (h:∀ l∈ls,l.to.toNat<32):aR3 ls<4294967296:=by
 apply Nat.lt_pow_two_of_testBit (n:=32)
 intro i hi
 rw [aSx,List.any_eq_false];intro l hl
 have:=h l hl;simp;omega
theorem aJy {g:Graph} (hg:GOK g) {v:Nat} (hv:v<g.ports.length) {l:Link} (hl:l∈g.ports[v]):0<=l.to/\l.to<(g.ports.length:Int):=by
 obtain ⟨a1,a2,_⟩:=aBd.1 ((aB3.1 (hg.links v hv)).1 l hl);exact ⟨a1,a2⟩
theorem aS4 {g:Graph} (hg:GOK g) (v:Nat):aIr g v<4294967296:=by
 unfold aIr
 by_cases hv:v<g.ports.length
 .rw [aA8 hv]
  refine aW4 fun l hl=>?_
  have:=aJy hg hv hl;have:=hg.le;omega
 .rw [List.getD_eq_getElem?_getD,List.getElem?_eq_none (by omega)];decide
theorem aJ9 {g:Graph} {v u:Nat} (hv:v<g.ports.length):(aIr g v).testBit u=true↔∃ l∈g.ports[v],l.to.toNat=u:=by
 unfold aIr;rw [aA8 hv,aSx,List.any_eq_true];simp
theorem aY9 {g:Graph} (hg:GOK g) {v u:Nat} (hv:v<g.ports.length) (h:(aIr g v).testBit u=true):u<g.ports.length/\(aIr g u).testBit v=true:=by
 obtain ⟨l,hl,e⟩:=(aJ9 hv).1 h;obtain ⟨a1,a2⟩:=aJy hg hv hl;have hu:u<g.ports.length:=by omega
 refine ⟨hu,(aJ9 hu).2 ?_⟩
 have hb:=hg.back v hv l hl;unfold aF8 at hb;rw [e,aA8 hu,List.any_eq_true] at hb;obtain ⟨k,hk,hk2⟩:=hb;simp at hk2
 exact ⟨k,hk,by omega⟩
theorem aCm {A B:Nat}:A&&&B=0↔∀ u,A.testBit u=true->B.testBit u=false:=by
 constructor
 .intro h u hA
  have:=Nat.testBit_and A B u;rw [h,Nat.zero_testBit,hA,Bool.true_and] at this;exact this.symm
 .intro h
  refine Nat.eq_of_testBit_eq fun u=>?_
  rw [Nat.testBit_and,Nat.zero_testBit];cases hA:A.testBit u with
  | false=>rfl
  | true=>rw [h u hA];rfl
theorem aSw {g:Graph} (hg:GOK g) {S v:Nat}:(aZm g S).testBit v=(decide (v<g.ports.length)&&(aIr g v&&&S != 0)):=by
 unfold aZm;rw [aHw]
 by_cases hv:v<g.ports.length
 .rw [decide_eq_true hv,Bool.true_and,Bool.true_and,Bool.eq_iff_iff,List.any_eq_true,bne_iff_ne,ne_eq,aCm,aA8 hv]
  constructor
  .rintro ⟨l,hl,hb⟩ hall
   obtain ⟨a1,a2⟩:=aJy hg hv hl;have hle:=hg.le;unfold aPu at hb;simp at hb
   have:=hall l.to.toNat ((aJ9 hv).2 ⟨l,hl,rfl⟩);rw [hb.2] at this;cases this
  .intro hn
   apply Classical.byContradiction
   intro hx
   apply hn
   intro u hu
   obtain ⟨l,hl,rfl⟩:=(aJ9 hv).1 hu;obtain ⟨a1,a2⟩:=aJy hg hv hl;have hle:=hg.le;cases hb:S.testBit l.to.toNat with
   | false=>rfl
   | true=>exact absurd ⟨l,hl,by unfold aPu;rw [decide_eq_true a1,decide_eq_true (show l.to<32 by omega),hb];rfl⟩ hx
 .rw [decide_eq_false hv];rfl
def aE9 (g:Graph) (S:Nat):Bool:=(aAe S).all fun v=>aIr g v&&&S==0
theorem aO1 {S n:Nat} (hn:n<=32) (hS:S<4294967296):aB1 S (aD8 n fun _=>true)=true↔∀ v,S.testBit v=true->v<n:=by
 rw [aB5];constructor
 .intro h v hv
  have:=h v (aI3 hS hv) hv;rw [aHw] at this;simpa using this
 .intro h v _ hv
  rw [aHw,decide_eq_true (h v hv)];rfl
theorem aDg {g:Graph} {S:Nat} (hS:S<4294967296):aE9 g S=true↔∀ v,S.testBit v=true->aIr g v&&&S=0:=by
 unfold aE9;rw [List.all_eq_true];constructor
 .intro h v hv
  have:=h v (aCe.2 ⟨aI3 hS hv,hv⟩);simpa using this
 .intro h v hv
  simpa using h v (aCe.1 hv).2
theorem aU1 {g:Graph} (hg:GOK g) {S:Nat} (hS:S<4294967296) (hw:aB1 S (aD8 g.ports.length fun _=>true)=true):aNk g S=aE9 g S:=by
 have hle:=hg.le;have hn:=(aO1 (by omega) hS).1 hw
 unfold aNk;rw [(aCr g).2 hg,hw,Bool.true_and,Bool.true_and,Bool.eq_iff_iff,aDg hS,List.all_eq_true];constructor
 .intro h v hv
  have:=h v (by rw [List.mem_range];exact aI3 hS hv)
  rw [hv,Bool.and_true,aSw hg,decide_eq_true (hn v hv),Bool.true_and] at this;simpa using this
 .intro h v _
  cases hv:S.testBit v with
  | false=>simp
  | true=>rw [aSw hg,h v hv];simp
def aAn (g:Graph) (kind:Int) (E S:Nat):Bool :=
 if S=0 then false else if aB1 S E=false then false
 else if kind=1 then (S&&&(S-1))==0
 else if kind=2 then aE9 g S
 else if kind=4 then S==E
 else true
def aE0 (g:Graph) (l:List Nat):Nat:=l.foldl (fun s v=>if aIr g v&&&s=0 then s|||2 ^ v else s) 0
def aAl (g:Graph) (kind:Int) (E W:Nat):Nat :=
 let w:=if W&&&E=0 then lsb E else W&&&E
 if kind=1 then lsb w
 else if kind=2 then aE0 g (aAe w)
 else if kind=4 then E
 else w
def aDk (kind:Int):Bool:=decide (1<=kind)&&decide (kind<=4)
attribute [local go_sem] Oper.semAt_some
def aGg (w:World) (b o:Nat) (x:Nat):Prop:=w.cell? ⟨b,o,none⟩=some (.int .u32 (x:Int))
theorem aGg.keeps:aL1 aGg:=fun _ _ _ _ _ k hb h=>(k.cell hb).trans h
def aAb:=aAc 1 aGg
theorem aAb.keep {w w':World} {A:Option Addr} {n:Nat} {xs:List Nat} (h:aAb w A n xs) (k:Bel w w'):aAb w' A n xs:=aAc.keep aGg.keeps h k
theorem aAb.at_ {w:World} {A:Option Addr} {n:Nat} {xs:List Nat} (h:aAb w A n xs) (k:Nat) (hk:k<xs.length) :
  ∃ b o,A=some ⟨b,o,none⟩/\b<w.heap.size/\w.cell? ⟨b,o+k,none⟩=some (.int .u32 (xs[k]:Int)):=by
 obtain ⟨b,o,e,hb,h⟩:=aAc.at_ h k hk;exact ⟨b,o,e,hb,by rw [Nat.mul_one] at h;exact h⟩
def aU9 (g:Graph):List Nat:=(List.range g.ports.length).map (aIr g)
def aKc (w:World) (A:Option Addr) (g:Graph):Prop:=aAb w A g.ports.length (aU9 g)
theorem aKc.keep {w w':World} {A:Option Addr} {g:Graph} (h:aKc w A g) (k:Bel w w'):aKc w' A g:=aAb.keep h k
theorem aKc.at_ {w:World} {A:Option Addr} {g:Graph} (h:aKc w A g) {v:Nat} (hv:v<g.ports.length) :
  ∃ b o,A=some ⟨b,o,none⟩/\b<w.heap.size/\w.cell? ⟨b,o+v,none⟩=some (.int .u32 (aIr g v:Int)):=by
 obtain ⟨b,o,e,hb,h⟩:=aAb.at_ h v (by unfold aU9;simpa using hv)
 refine ⟨b,o,e,hb,?_⟩
 rw [h];simp [aU9]
theorem aVu (A:Option Addr) (c:Nat) (g:Graph) (S:Nat) (w:World) (hN:aKc w A g) (hT:aC3 w) (hS:S<4294967296) (hw:∀ v,S.testBit v=true->v<g.ports.length) (hg:GOK g) :
  Calls prog 109 #[.slice A g.ports.length c,.int .u32 (S:Int)] w fun e w'=>e = .returned (.bool (aE9 g S))/\Bel w w':=by
 have HN:=aA0 (fun w' (k:Bel w w')=>hN.keep k);have HT:=aA0 (fun w' (k:Bel w w')=>hT.keep k);refine aIg func109 rfl ?_
 simp only [ntmps109,List.size_toArray,List.length_cons,List.length_nil,Nat.reduceAdd,Nat.reduceSub,Array.replicate_succ,Array.replicate_zero,List.push_toArray,List.append_toArray,List.nil_append,List.cons_append]
 go_wp2_with (go_at_call 96;refine (aG7 _ _).mono ?_;rintro e w' ⟨rfl,rfl⟩)
 obtain ⟨W0,hW0⟩:∃ W0,(((w.alloc (.cells #[.slice A g.ports.length c] 66)).alloc (.cells #[.int .u32 (S:Int)] 34)).alloc (.cells #[.bool false] 4)).alloc (.cells #[.int .u32 (S:Int)] 34)=W0:=⟨_,rfl⟩;have b1:Boxed W0 w.heap.size 66 (.slice A g.ports.length c):=by rw [<- hW0];exact (((Boxed.new w _ _).alloc _).alloc _).alloc _
 have b2:Boxed W0 (w.heap.size+1) 34 (.int .u32 (S:Int)):=by
  rw [<- hW0];have:=Boxed.new (w.alloc (.cells #[.slice A g.ports.length c] 66)) 34 (.int .u32 (S:Int));rw [World.size_alloc] at this;exact (this.alloc _).alloc _
 have b3:Boxed W0 (w.heap.size+1+1) 4 (.bool false):=by
  rw [<- hW0];have:=Boxed.new ((w.alloc (.cells #[.slice A g.ports.length c] 66)).alloc (.cells #[.int .u32 (S:Int)] 34)) 4 (.bool false);rw [World.size_alloc,World.size_alloc] at this;exact this.alloc _
 have b4:Boxed W0 (w.heap.size+1+1+1) 34 (.int .u32 (S:Int)):=by
  rw [<- hW0];have:=Boxed.new (((w.alloc (.cells #[.slice A g.ports.length c] 66)).alloc (.cells #[.int .u32 (S:Int)] 34)).alloc (.cells #[.bool false] 4)) 34 (.int .u32 (S:Int));rw [World.size_alloc,World.size_alloc,World.size_alloc] at this;exact this
 have hb0:Bel w W0:=by rw [<- hW0];exact ((((Bel.refl w).alloc _).alloc _).alloc _).alloc _
 have hz0:W0.heap.size=w.heap.size+1+1+1+1:=by rw [<- hW0];simp
 rw [hW0];clear hW0;refine (wpIn_wide (n:=5)).1 ?_
 refine aIq (n:=5) rfl (by decide) (gf:=119) (lb:=#[.pointer (some ⟨w.heap.size+1+1+1,0,none⟩)]) (by simp [go_sem]) trivial (enters_of func119 (by kernel_rfl) rfl)
  (aMd 4 _ S W0 (by decide) hS b4 (HT.out _ hb0)) (by rintro k rfl;omega) (by rintro k rfl;exact (HT.out _ hb0).1) (fun _=>rfl) (fun k=>k=w.heap.size+1+1+1∨k=W0.heap.size∨k=W0.heap.size+1) (fun k=>Iff.rfl)
  (fun pre W=>Boxed W w.heap.size 66 (.slice A g.ports.length c)/\Boxed W (w.heap.size+1) 34 (.int .u32 (S:Int))/\Boxed W (w.heap.size+1+1) 4 (.bool false)/\(∀ v∈pre,aIr g v&&&S=0)/\Bel w W)
  (fun c pre W=>c = .ret/\Boxed W (w.heap.size+1+1) 4 (.bool false)/\aE9 g S=false/\Bel w W)
  (fun s A B ⟨h1,h2,h3,h4,h5⟩ hg=>⟨hg.boxed h1 (by omega),hg.boxed h2 (by omega),hg.boxed h3 (by omega),h4,hg.belE h5 (by omega)⟩)
  (fun c s A B ⟨h1,h2,h3,h4⟩ hg=>⟨h1,hg.boxed h2 (by omega),h3,hg.belE h4 (by omega)⟩)
  ⟨b1,b2,b3,by simp,hb0⟩
  (fun x a' W=>a'={ tmps:=#[.slice A g.ports.length c,.int .u32 (S:Int),.pointer (some ⟨w.heap.size,0,none⟩),.pointer (some ⟨w.heap.size+1,0,none⟩),.pointer (some ⟨w.heap.size+1+1,0,none⟩),.int .i64 (x:Int),.int .u32 (S:Int),.func (.func 119) #[] #[.pointer (some ⟨w.heap.size+1+1+1,0,none⟩)],.int .i64 (x:Int),undef,undef,undef,undef,undef,undef,undef],defers:=[] })
  (fun _ _ _ _ h _=>h) ?assign ?body ?done ?stop
 case assign =>
  intro pre x W K hp hI hl hK
  gi_wp2
  exact hK _ _ (aC1.refl _ _) hI rfl
 case body =>
  rintro pre x a' W hp ⟨h1,h2,h3,h4,h5⟩ rfl hl ⟨r,hr⟩;obtain ⟨c1,f1,l1⟩:=aAw h1;obtain ⟨c2,f2,l2⟩:=aAw h2;obtain ⟨c3,f3,l3⟩:=aAw h3;have hx:x∈aAe S:=hp.subset (by simp)
  have hxn:=hw x (aCe.1 hx).2;obtain ⟨b,o,e,hb,hc⟩:=(HN.out _ h5).at_ hxn;subst e;have q:=aCi (aS4 hg x) hS;have hdx:decide (x<g.ports.length)=true:=by simpa using hxn
  generalize hnv:aIr g x=N at *;refine wpIn_block (wpIn_seq ?_)
  refine aA6.startIn (fun w'=>w'.cell? ⟨w.heap.size,0,none⟩=some (.slice (some ⟨b,o,none⟩) g.ports.length c)/\w'.cell? ⟨w.heap.size+1,0,none⟩=some (.int .u32 (S:Int))/\w'.cell? ⟨b,o+x,none⟩=some (.int .u32 (N:Int))/\w.heap.size<w'.heap.size/\w.heap.size+1<w'.heap.size/\b<w'.heap.size) 6 (by kernel_rfl) (by kernel_rfl) (by rintro ⟨_,_,h⟩;exact h) ?_
  have hHeld:W.drew.cell? ⟨w.heap.size,0,none⟩=some (.slice (some ⟨b,o,none⟩) g.ports.length c)/\W.drew.cell? ⟨w.heap.size+1,0,none⟩=some (.int .u32 (S:Int))/\W.drew.cell? ⟨b,o+x,none⟩=some (.int .u32 (N:Int))/\w.heap.size<W.drew.heap.size/\w.heap.size+1<W.drew.heap.size/\b<W.drew.heap.size:=⟨c1,c2,hc,l1,l2,hb⟩
  by_cases hz:N&&&S=0
  .rw [hz] at q
   (refine aA6.t (v:=?_) 0 9 rfl rfl (by kernel_rfl) (fun _ _ _ h=>h) hHeld (Or.inl ⟨by rfl,?_⟩) ?_;rotate_left 1;focus (intro w' hSw;(try dsimp only at hSw);go_simp;(try with_reducible rfl);done))
   (refine aA6.t (v:=?_) 1 10 rfl rfl (by kernel_rfl) (fun _ _ _ h=>h) hHeld (Or.inl ⟨by rfl,?_⟩) ?_;rotate_left 1;focus (intro w' hSw;(try dsimp only at hSw);go_simp;(try with_reducible rfl);done))
   (refine aA6.t (v:=?_) 2 11 rfl rfl (by kernel_rfl) (fun _ _ _ h=>h) hHeld (Or.inl ⟨by rfl,?_⟩) ?_;rotate_left 1;focus (intro w' hSw;(try dsimp only at hSw);go_simp;(try with_reducible rfl);done))
   (refine aA6.t (v:=?_) 3 12 rfl rfl (by kernel_rfl) (fun _ _ _ h=>h) hHeld (Or.inl ⟨by rfl,?_⟩) ?_;rotate_left 1;focus (intro w' hSw;(try dsimp only at hSw);go_simp;(try with_reducible rfl);done))
   (refine aA6.t (v:=?_) 4 13 rfl rfl (by kernel_rfl) (fun _ _ _ h=>h) hHeld (Or.inl ⟨by rfl,?_⟩) ?_;rotate_left 1;focus (intro w' hSw;(try dsimp only at hSw);go_simp;(try with_reducible rfl);done))
   (refine aA6.t (v:=?_) 5 14 rfl rfl (by kernel_rfl) (fun _ _ _ h=>h) hHeld (Or.inl ⟨by rfl,?_⟩) ?_;rotate_left 1;focus (intro w' hSw;(try dsimp only at hSw);go_simp;(try with_reducible rfl);done))
   refine aA6.one (i:=6) (by kernel_rfl) rfl (fun K hK=>?_)
   go_simp
   refine hK.out _ _ (fun h=>absurd rfl h) ?_
   refine aA6.done (by kernel_rfl) ?_ _
   (try simp only [Act.put,List.setIfInBounds_toArray,List.set_cons_zero,List.set_cons_succ])
   change Code.wpIn _ _ _ _ _ _ _
   gi_wp2
   exact ⟨aC1.of_bel ((Bel.refl W).drew),h1,h2,h3,fun v hv=>by
    rcases List.mem_append.1 hv with hv | hv
    .exact h4 v hv
    .obtain rfl:v=x:=by simpa using hv
     rw [hnv];exact hz,h5.drew⟩
  .have hq:(((N&&&S:Nat):Int) != 0)=true:=by simpa using hz
   have hpf:aE9 g S=false:=by
    rw [Bool.eq_false_iff];intro hp
    have:=(aDg hS).1 hp x (aCe.1 hx).2;rw [hnv] at this;exact hz this
   generalize N&&&S=M at *
   (refine aA6.t (v:=?_) 0 9 rfl rfl (by kernel_rfl) (fun _ _ _ h=>h) hHeld (Or.inl ⟨by rfl,?_⟩) ?_;rotate_left 1;focus (intro w' hSw;(try dsimp only at hSw);go_simp;(try with_reducible rfl);done))
   (refine aA6.t (v:=?_) 1 10 rfl rfl (by kernel_rfl) (fun _ _ _ h=>h) hHeld (Or.inl ⟨by rfl,?_⟩) ?_;rotate_left 1;focus (intro w' hSw;(try dsimp only at hSw);go_simp;(try with_reducible rfl);done))
   (refine aA6.t (v:=?_) 2 11 rfl rfl (by kernel_rfl) (fun _ _ _ h=>h) hHeld (Or.inl ⟨by rfl,?_⟩) ?_;rotate_left 1;focus (intro w' hSw;(try dsimp only at hSw);go_simp;(try with_reducible rfl);done))
   (refine aA6.t (v:=?_) 3 12 rfl rfl (by kernel_rfl) (fun _ _ _ h=>h) hHeld (Or.inl ⟨by rfl,?_⟩) ?_;rotate_left 1;focus (intro w' hSw;(try dsimp only at hSw);go_simp;(try with_reducible rfl);done))
   (refine aA6.t (v:=?_) 4 13 rfl rfl (by kernel_rfl) (fun _ _ _ h=>h) hHeld (Or.inl ⟨by rfl,?_⟩) ?_;rotate_left 1;focus (intro w' hSw;(try dsimp only at hSw);go_simp;(try with_reducible rfl);done))
   (refine aA6.t (v:=?_) 5 14 rfl rfl (by kernel_rfl) (fun _ _ _ h=>h) hHeld (Or.inl ⟨by rfl,?_⟩) ?_;rotate_left 1;focus (intro w' hSw;(try dsimp only at hSw);go_simp;(try with_reducible rfl);done))
   refine aA6.one (i:=6) (by kernel_rfl) rfl (fun K hK=>?_)
   go_simp
   refine hK.out _ _ (fun h=>absurd rfl h) ?_
   refine aA6.done (by kernel_rfl) ?_ _
   (try simp only [Act.put,List.setIfInBounds_toArray,List.set_cons_zero,List.set_cons_succ])
   change Code.wpIn _ _ _ _ _ _ _
   gi_wp2
   refine ⟨(aC1.of_bel ((Bel.refl W).drew)).trans (aC1.setCell _ _ _ ?_),rfl,Boxed.set _ (show Boxed W.drew _ _ _ from h3),hpf,h5.drew.setCell (by simp;omega) _⟩
   have:=hT.1;rintro ((h | h | h) | h) <;> simp at h <;> omega
 case done =>
  rintro W ⟨h1,h2,h3,h4,h5⟩ hK;obtain ⟨c3,f3,l3⟩:=aAw h3;have hpt:aE9 g S=true:=(aDg hS).2 fun v hv=>h4 v (aCe.2 ⟨aI3 hS hv,hv⟩);go_wp2;have h3':=h3.set (.bool true);refine aEx (B:=w.heap.size) (aEr.push (aEr.nil _ _) (by omega) ((Below.heap_setCell _ _ _ _ (by simp;omega)).trans hK) (by simp)) ?_
  intro W' hA hs
  have hr:=hA.cellD h3'.cell;exact ⟨.bool true,by simp [results,Tryz.results109,go_sem,hr],aA2 hpt.symm,hA.bel (h5.setCell (by simp;omega) _)⟩
 case stop =>
  rintro c' pre W hp ⟨rfl,h3,hpf,h5⟩ hK;refine wpIn_wide.2 ?_
  go_wp2;refine aEx (B:=w.heap.size) (aEr.push (aEr.nil _ _) (by omega) hK (by simp)) ?_
  intro W' hA hs
  have hr:=hA.cellD h3.cell;exact ⟨.bool false,by simp [results,Tryz.results109,go_sem,hr],aA2 hpf.symm,hA.bel h5⟩
end Go.Proofs.YtdcjnhoabbdanaaGreatDoor

namespace Go.Proofs.YtdcjnhoabbdanaaGreatDoor
theorem aVt {g:Graph} (hg:aD4 g=true) {S:Nat} (hS:S<4294967296):aNk g S=(aB1 S (aD8 g.ports.length fun _=>true)&&(aZm g S&&&S==0)):=by
 unfold aNk;rw [hg,Bool.true_and]
 congr 1
 rw [Bool.eq_iff_iff,List.all_eq_true,beq_iff_eq];constructor
 .intro h
  refine Nat.eq_of_testBit_eq fun v=>?_
  rw [Nat.testBit_and,Nat.zero_testBit];cases hb:S.testBit v with
  | false=>exact Bool.and_false _
  | true =>
   have:=h v (List.mem_range.2 (aI3 hS hb));rw [hb] at this;simpa using this
 .intro h v _
  have:=congrArg (fun x=>x.testBit v) h;simp only [Nat.testBit_and,Nat.zero_testBit] at this
  rw [this];rfl
theorem aRs:∀ {bs:List (Int × Int)} {cs:List Int},inL bs cs↔cs.length=bs.length/\∀ i,(h1:i<cs.length)->(h2:i<bs.length)->bs[i].1<=cs[i]/\cs[i]<=bs[i].2
 | [],[]=>by simp [inL]
 | [],_ :: _=>by simp [inL]
 | _ :: _,[]=>by simp [inL]
 | b :: bs,c :: cs=>by
  have ih:=aRs (bs:=bs) (cs:=cs);constructor
  .rintro ⟨h1,h2,h3⟩
   obtain ⟨h4,h5⟩:=ih.1 h3;refine ⟨by simp [h4],fun i a1 a2=>?_⟩
   cases i with
   | zero=>exact ⟨h1,h2⟩
   | succ i=>exact h5 i (by simpa using a1) (by simpa using a2)
  .rintro ⟨h1,h2⟩
   have h0:=h2 0 (by simp) (by simp)
   refine ⟨h0.1,h0.2,ih.2 ⟨by simpa using h1,fun i a1 a2=>?_⟩⟩
   exact h2 (i+1) (by simpa using a1) (by simpa using a2)
theorem aRt:∀ {T:List (List (Int × Int))} {C:aA5},inN T C↔C.length=T.length/\∀ v,(h1:v<C.length)->(h2:v<T.length)->inL T[v] C[v]
 | [],[]=>by simp [inN]
 | [],_ :: _=>by simp [inN]
 | _ :: _,[]=>by simp [inN]
 | t :: T,c :: C=>by
  have ih:=aRt (T:=T) (C:=C);constructor
  .rintro ⟨h1,h3⟩
   obtain ⟨h4,h5⟩:=ih.1 h3;refine ⟨by simp [h4],fun i a1 a2=>?_⟩
   cases i with
   | zero=>exact h1
   | succ i=>exact h5 i (by simpa using a1) (by simpa using a2)
  .rintro ⟨h1,h2⟩
   have h0:=h2 0 (by simp) (by simp)
   refine ⟨h0,ih.2 ⟨by simpa using h1,fun i a1 a2=>?_⟩⟩
   exact h2 (i+1) (by simpa using a1) (by simpa using a2)
theorem aZb {T:List (List (Int × Int))} {C:aA5}:aG2 T C=true↔inN T C:=by
 rw [aC4,aRt];constructor
 .rintro ⟨h1,h2⟩;exact ⟨h1,fun v a b=>aRs.2 (aBv.1 (h2 v a b))⟩
 .rintro ⟨h1,h2⟩;exact ⟨h1,fun v a b=>aBv.2 (aRs.1 (h2 v a b))⟩
theorem bAd {p:Prg} {g:Graph} {c:aA5} (hm:aD5 p g c=0):inN (aAo p g) c:=aZb.1 (aB6 hm).2
theorem aPi {S n:Nat} (hn:n<=32) (hS:S<2 ^ n):(aAe S).length<=n:=by
 rw [aRj hn hS];exact Nat.le_trans (List.length_filter_le _ _) (by simp)
theorem aFf {g:Graph} {kind:Int} {E S:Nat} (h:aAn g kind E S=true):S≠0/\aB1 S E=true:=by
 unfold aAn at h;split at h
 .cases h
 split at h
 .cases h
 .rename_i h1 h2
  exact ⟨h1,by simpa using h2⟩
theorem aG9 {S E:Nat} (hS:S<4294967296) (hE:E<4294967296):S&&&E=S↔aB1 S E=true:=by
 rw [aB5];constructor
 .intro h v _ hv
  have:=Nat.testBit_and S E v;rw [h,hv,Bool.true_and] at this;exact this.symm
 .intro h
  refine aY5 (Nat.and_lt_two_pow (n:=32) S hE) hS fun v hv=>?_
  rw [Nat.testBit_and];cases hb:S.testBit v with
  | false=>rfl
  | true=>rw [h v hv hb];rfl
theorem aVj {v:Nat} (hv:v<32):aAe (2 ^ v)=[v]:=by
 have h:=aG3 (k:=v) (m:=0) (by have:=aJp hv;simpa using this)
 simpa [aIh] using h
theorem aHk {E n:Nat} (hn:n<=32) (hE:E<2 ^ n):aB1 E (aD8 n fun _=>true)=true:=by
 have h32:E<4294967296:=Nat.lt_of_lt_of_le hE (Nat.pow_le_pow_right (n:=2) (by decide) hn)
 rw [aO1 hn h32];intro v hv
 rcases Nat.lt_or_ge v n with h | h
 .exact h
 .have e:2 ^ n<=2 ^ v:=Nat.pow_le_pow_right (by decide) h
  rw [Nat.testBit_lt_two_pow (Nat.lt_of_lt_of_le hE e)] at hv;cases hv
theorem aHl {A B C:Nat} (h:aB1 A B=true) (k:aB1 B C=true):aB1 A C=true:=by
 rw [aB5] at *;exact fun v hv hA=>k v hv (h v hv hA)
def aCb (g:Graph) (v s:Nat):List Value:=(List.range g.ports.length).map fun u=>Value.int .u32 ((if u<v then aIr g u else if u=v then s else 0:Nat):Int)
theorem aQ4 (g:Graph):aCb g 0 0=List.replicate g.ports.length (.int .u32 0):=by
 apply List.ext_getElem
 .simp [aCb]
 .intro i h1 h2
  simp [aCb]
theorem aS5 (g:Graph) {v:Nat} (_:v<g.ports.length) (s s':Nat):(aCb g v s).set v (.int .u32 (s':Int))=aCb g v s':=by
 apply List.ext_getElem
 .simp [aCb]
 .intro i h1 h2
  rw [List.getElem_set]
  by_cases h:v=i
  .subst h;rw [if_pos rfl];simp [aCb]
  .rw [if_neg h]
   simp only [aCb,List.getElem_map,List.getElem_range]
   by_cases hi:i<v
   .rw [if_pos hi,if_pos hi]
   .rw [if_neg hi,if_neg hi,if_neg (fun e=>h e.symm),if_neg (fun e=>h e.symm)]
theorem aQ3 (g:Graph) (v:Nat):aCb g v (aIr g v)=aCb g (v+1) 0:=by
 unfold aCb;refine List.map_congr_left fun u _=>?_
 by_cases h:u<v
 .rw [if_pos h,if_pos (by omega)]
 .rw [if_neg h]
  by_cases h2:u=v
  .subst h2;rw [if_pos rfl,if_pos (by omega)]
  .rw [if_neg h2,if_neg (by omega)]
   split <;> rfl
theorem aU8 (g:Graph) {v:Nat} (hv:v<g.ports.length) (s:Nat):(aCb g v s)[v]?=some (.int .u32 (s:Int)):=by
 unfold aCb;rw [List.getElem?_map,List.getElem?_range hv];simp
theorem aQ2 (g:Graph) (s:Nat) {u:Nat} (hu:u<g.ports.length):(aCb g g.ports.length s)[u]?=some (.int .u32 (aIr g u:Int)):=by
 unfold aCb;rw [List.getElem?_map,List.getElem?_range hu];simp [hu]
theorem aW6 {ls:List Link} {i:Nat} (hi:i<ls.length):aR3 (ls.take (i+1))=aR3 (ls.take i)|||2 ^ ls[i].to.toNat:=by
 rw [List.take_succ_eq_append_getElem hi,aW5]
theorem aUr {p:Prg} {g:Graph} {v:Nat} (hv:v<(aAo p g).length):((aAo p g)[v]).length=p.vars.length:=by simp [aAo,aHu]
theorem aYn {t:List (Int × Int)} {j:Nat} (hj:j<t.length):aQr (t.drop j)=(t[j].2-t[j].1+1)*aQr (t.drop (j+1)):=by
 rw [List.drop_eq_getElem_cons hj];rfl
theorem aYo {T:List (List (Int × Int))} {v:Nat} (hv:v<T.length):aNa (T.drop v)=aQr T[v]*aNa (T.drop (v+1)):=by
 rw [List.drop_eq_getElem_cons hv];rfl
def Prod (T:List (List (Int × Int))) (v j:Nat) (r:Int):Prop:=1<=r/\r<=32768/\r*(aQr ((T.getD v []).drop j)*aNa (T.drop (v+1)))=aNa T
def aUz (T:List (List (Int × Int))) (v:Nat) (r:Int):Prop:=1<=r/\r<=32768/\r*aNa (T.drop v)=aNa T
theorem aUz.start (T:List (List (Int × Int))):aUz T 0 1:=⟨by decide,by decide,by rw [List.drop_zero,Int.one_mul]⟩
theorem aUz.row {T:List (List (Int × Int))} {v:Nat} {r:Int} (h:aUz T v r) (hv:v<T.length):Prod T v 0 r:=by
 obtain ⟨h1,h2,h3⟩:=h;refine ⟨h1,h2,?_⟩
 rw [List.getD_eq_getElem?_getD,List.getElem?_eq_getElem hv,Option.getD_some,List.drop_zero,<- aYo hv];exact h3
theorem Prod.done {T:List (List (Int × Int))} {v:Nat} {r:Int} (hv:v<T.length) (h:Prod T v T[v].length r):aUz T (v+1) r:=by
 obtain ⟨h1,h2,h3⟩:=h;refine ⟨h1,h2,?_⟩
 rw [List.getD_eq_getElem?_getD,List.getElem?_eq_getElem hv,Option.getD_some,List.drop_length] at h3;rw [<- h3];show _=r*(1*_);rw [Int.one_mul]
theorem Prod.step {T:List (List (Int × Int))} {v j:Nat} {r:Int} (ho:okN T) (hv:v<T.length) (hj:j<T[v].length) (h:Prod T v j r) :
  (32768<r*(T[v][j].2-T[v][j].1+1)->32768<aNa T)/\(r*(T[v][j].2-T[v][j].1+1)<=32768->Prod T v (j+1) (r*(T[v][j].2-T[v][j].1+1))):=by
 obtain ⟨h1,h2,h3⟩:=h;have e:T.getD v []=T[v]:=by rw [List.getD_eq_getElem?_getD,List.getElem?_eq_getElem hv,Option.getD_some]
 rw [e,aYn hj,Int.mul_assoc,<- Int.mul_assoc r] at h3;have hok:okL T[v]:=ho _ (List.getElem_mem hv);have hb:=hok _ (List.getElem_mem hj);have hr:r<=r*(T[v][j].2-T[v][j].1+1):=aYy h1 (by omega)
 have h4:=aMv (aYa hok (j+1));have h5:=aQs (aYb ho (v+1));have h6:=Int.mul_pos h4 h5;have h7:=aYy (r:=r*(T[v][j].2-T[v][j].1+1)) (s:=aQr (T[v].drop (j+1))*aNa (T.drop (v+1))) (by omega) (by omega)
 refine ⟨fun h=>by omega,fun h=>⟨by omega,h,by rw [e];exact h3⟩⟩
open Go.RowKit
theorem aCq {p:Prg} {g:Graph} {c:aA5} (hm:aD5 p g c=0) (hL:aAq p=true):aBr c=true:=by
 have hf:=(aB6 hm).1;have hg:=(aAt hf).2.1;have hcl:=aIw hm;have hle:=hg.le;have hv10:=(aBb hL).2.1;unfold aBr;rw [Bool.and_eq_true,decide_eq_true_eq,List.all_eq_true];refine ⟨by omega,fun r hr=>?_⟩
 obtain ⟨v,hv,rfl⟩:=List.getElem_of_mem hr;have hvt:v<(aAo p g).length:=by rw [aCd,hg.ids,<- hcl];exact hv
 have:=aNi ((aRt.1 (bAd hm)).2 v hv hvt);rw [aUr hvt] at this;simp;omega
end Go.Proofs.YtdcjnhoabbdanaaGreatDoor

