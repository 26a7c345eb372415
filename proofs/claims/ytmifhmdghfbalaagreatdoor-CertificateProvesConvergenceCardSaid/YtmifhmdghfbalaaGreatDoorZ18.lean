/- Merged. -/
import Derived.RangeFuncNested
import Derived.RangeFuncBound
import Derived.RangeFuncCalls
import Derived.RangeFuncLeaves
import Derived.Shelf.Abstract
import Derived.Shelf.RegionOpen
import Derived.WalkKit
import Derived.OwnWalkIn
import Derived.TacticsInMore
import Derived.LoopNIn
import Derived.LoopIn
import Derived.RangeFuncBox
import Derived.Test.YtmifhmdghfbalaaGreatDoorZ16
set_option linter.unusedSimpArgs false
set_option linter.unnecessarySimpa false
set_option linter.unusedVariables false
set_option maxRecDepth 100000
set_option maxHeartbeats 2000000
open Go.Proofs.Tryz

namespace Go.Proofs.YtmifhmdghfbalaaGreatDoor
open Go.RowKit
def aG1 (w:World):Prop:=0<w.heap.size/\∀ i,i<32->w.cell? ⟨0,i,none⟩=some (.int .u8 ((bruijn.getD i 0:Nat):Int))
theorem aG1.keep {w w':World} (h:aG1 w) (k:Bel w w'):aG1 w':=⟨Nat.lt_of_lt_of_le h.1 k.size,fun i hi=>(k.cell h.1).trans (h.2 i hi)⟩
theorem bGe {S:Nat} (h0:S≠0) (hS:S<4294967296) : -(S:Int) % 4294967296=((4294967296-S:Nat):Int):=by omega
theorem bIf {S:Nat} (hS:S<4294967296) (h0:S≠0):bits .and .u32 (S:Int) (-(S:Int) % 4294967296)=((lsb S:Nat):Int):=by
 rw [bGe h0 hS,aH3 hS (by omega)];rfl
theorem bF7 {S:Nat} (hS:S<4294967296) (h0:S≠0):bits .and .u32 (-(S:Int) % 4294967296) (S:Int)=((lsb S:Nat):Int):=by
 rw [bGe h0 hS,aH3 (by omega) hS,Nat.and_comm];rfl
theorem aWm {k:Nat} (hk:k<32):∃ J:Nat,J<32/\((2 ^ k:Nat):Int)*125613361 % 4294967296 / 134217728=(J:Int)/\bruijn.getD J 0=k:=by
 have h:=bFc k hk;refine ⟨2 ^ k*125613361 % 4294967296 / 134217728,?_,by omega,?_⟩
 .omega
 .rw [List.getD_eq_getElem?_getD,h];rfl
theorem bMo (S:Nat) (k m:Nat) (w:World) (hT:aG1 w) (hS:S<4294967296) (e:S=2 ^ k*(2*m+1)) :
  Calls prog 234 #[.int .u32 (S:Int)] w fun e w'=>e = .returned (.int .i64 (k:Int))/\w=w':=by
 have h0:S≠0:=by rw [e];exact Nat.ne_of_gt (Nat.mul_pos (Nat.two_pow_pos k) (by omega))
 have hb:((S:Int)==0)=false:=by simp;omega
 have hlt:=hT.1;obtain ⟨k',m',e',hk,hl,_⟩:=aEc hS h0
 obtain rfl:k=k':=by
  have h1:=aJe (k:=k) (m:=m) (by rw [<- e];exact hS)
  have h2:=aJe (k:=k') (m:=m') (by rw [<- e'];exact hS)
  rw [<- e] at h1;rw [<- e',h1] at h2;injection h2
 have q1:=bIf hS h0;rw [hl] at q1;obtain ⟨J,hJ,q2,hv⟩:=aWm hk;have hc:=hT.2 J hJ;rw [hv] at hc;generalize 2 ^ k=P at q1 q2;have dJ:decide (J<32)=true:=by simpa using hJ
 clear e e' hl hv hT h0 hS hJ;go_enter func234,ntmps234
 go_wp2_with fail
 go_ret;exact ⟨rfl,rfl⟩
theorem aUu {x:Nat} (h:x<4294967296):bits .and .u32 (x:Int) 255=((x % 256:Nat):Int):=by
 rw [show (255:Int)=((255:Nat):Int) from rfl,aH3 h (by decide),Nat.and_two_pow_sub_one_eq_mod x 8]
theorem bC1 (S:Nat) (w:World) (hS:S<4294967296) :
  Calls prog 232 #[.int .u32 (S:Int)] w fun e w'=>e = .returned (.int .i64 ((aB1 S).length:Int))/\Bel w w':=by
 obtain ⟨b0,hb0⟩:∃ b:Nat,b=S % 256:=⟨_,rfl⟩;obtain ⟨b1,hb1⟩:∃ b:Nat,b=S / 256 % 256:=⟨_,rfl⟩;obtain ⟨b2,hb2⟩:∃ b:Nat,b=S / 65536 % 256:=⟨_,rfl⟩;obtain ⟨b3,hb3⟩:∃ b:Nat,b=S / 16777216:=⟨_,rfl⟩;have q0:bits .and .u32 (S:Int) 255=(b0:Int):=by rw [aUu hS,hb0]
 have q1:bits .and .u32 ((S:Int) / 256) 255=(b1:Int):=by
  rw [show (S:Int) / 256=((S / 256:Nat):Int) by omega,aUu (by omega),hb1]
 have q2:bits .and .u32 ((S:Int) / 65536) 255=(b2:Int):=by
  rw [show (S:Int) / 65536=((S / 65536:Nat):Int) by omega,aUu (by omega),hb2]
 have q3:(S:Int) / 16777216=(b3:Int):=by omega
 have l0:(b0:Int)<=255:=by omega
 have l1:(b1:Int)<=255:=by omega
 have l2:(b2:Int)<=255:=by omega
 have l3:(b3:Int)<=255:=by omega
 have i0:b0<=255:=by omega
 have i1:b1<=255:=by omega
 have i2:b2<=255:=by omega
 have i3:b3<=255:=by omega
 have HB:=aA1 (And.intro hb0 (And.intro hb1 (And.intro hb2 hb3)));clear hb0 hb1 hb2 hb3;go_enter func232,ntmps232;simp only [List.append_eq,List.cons_append,List.nil_append,Lib.fold_pop8tab]
 go_wp2
 go_region
 go_wp2;go_ret;refine ⟨aA4 ?_,(Bel.refl w).drew⟩
 obtain ⟨e0,e1,e2,e3⟩:=HB.out;rw [aVr (by omega),aVr (by omega),aVr (by omega),aVr (by omega),aZz hS,e0,e1,e2,e3]
 have h0:=aUw (S % 256);have h1:=aUw (S / 256 % 256);have h2:=aUw (S / 65536 % 256);have h3:=aUw (S / 16777216);omega
attribute [local go_sem] Oper.semAt_some
theorem aJp (S:Nat) (w:World) :
  Calls prog 174 #[.int .u32 (S:Int)] w fun e w'=>e = .returned (.func (.func 233) #[] #[.pointer (some ⟨w.heap.size,0,none⟩)])/\w'=w.alloc (.cells #[.int .u32 (S:Int)] 34):=by
 go_enter func174,ntmps174;go_wp2;go_ret;exact ⟨rfl,rfl⟩
theorem aG1.same {A B:World} (h:aG1 A) (hs:A.heap.size<=B.heap.size) (hb:B.heap[0]?=A.heap[0]?):aG1 B :=
 ⟨Nat.lt_of_lt_of_le h.1 hs,fun i hi=>(World.cell?_of_block hb).trans (h.2 i hi)⟩
def bMb (w:World) (B:Nat):Nat:=match w.cell? ⟨B,0,none⟩ with | some (.int _ x)=>x.toNat | _=>0
theorem aRk (n:Nat) (B S:Nat) (w:World) (hn:1<=n) (hS:S<4294967296) (hB:Boxed w B 34 (.int .u32 (S:Int))) (hT:aG1 w) :
  bHy Fence.wide n prog 233 #[.pointer (some ⟨B,0,none⟩)] (fun v:Nat=>#[.int .i64 (v:Int)]) (fun k=>k=B) (fun k=>k=0) (aB1 S) w:=by
 intro l J Jx W hW hJ hJx hY h0
 refine callsIn_of_wp func233 rfl trivial ?_ rfl
 simp only [ntmps233,List.size_toArray,List.length_cons,List.length_nil,Nat.reduceAdd,Nat.reduceSub,Array.replicate_succ,Array.replicate_zero,List.push_toArray,List.append_toArray,List.nil_append,List.cons_append]
 gi_wp2
 gi_loopw [] (fun wr=>∃ (pre:List Nat) (cur:Nat),Hid (Boxed wr B 34 (.int .u32 (cur:Int)))/\Hid (aG1 wr)/\Hid (pre++aB1 cur=aB1 S)/\Hid (cur<4294967296)/\Hid (J pre wr)) (fun wr=>bMb wr B)
 case atStart=>exact ⟨[],S,by show Boxed _ _ _ _;exact (hW.block B hB.lt).trans hB,hT.keep hW,by show []++_=_;rfl,hS,h0⟩
 case round =>
  clear h0 hS hB hT;obtain ⟨pre,cur,HX,HT,HP,HC,HJ⟩:=hrel;have hc:=HX.out.cell;have hf:=HX.out.frozen;have hl:=HX.out.lt
  by_cases hz:cur=0
  .have hb:((cur:Int) != 0)=false:=by simp;exact hz
   have HZ:=aA1 hz;clear hz
   gi_wp2
   go_end0
   have h:=HP.out;rw [HZ.out,aG4,List.append_nil] at h;exact ⟨⟨_,rfl⟩,.inl (by rw [<- h];exact HJ.out)⟩
  .have hb:((cur:Int) != 0)=true:=by simp;exact hz
   obtain ⟨k,m,e1,hk,_,e2,e3⟩:=aEc HC.out hz
   have q:bits .and .u32 (cur:Int) (((cur:Int)-1) % 4294967296)=((2 ^ k*(2*m):Nat):Int):=by
    rw [show ((cur:Int)-1) % 4294967296=((cur-1:Nat):Int) by have:=HC.out;omega,aH3 HC.out (by have:=HC.out;omega),e2]
   have hlt:2 ^ k*(2*m)<cur:=by
    have:2 ^ k*(2*m)+2 ^ k=cur:=by rw [e1,Nat.mul_add,Nat.mul_one]
    have:=Nat.two_pow_pos k;omega
   have HQ:Hid (pre++[k]++aB1 (2 ^ k*(2*m))=aB1 S):=by
    have:=HP.out;rw [e3] at this;show _=_
    rw [List.append_assoc];exact this
   have hpre:pre++[k] <+: aB1 S:=⟨_,HQ.out⟩;obtain ⟨fn,tmps,assign,body,hy,hR⟩:=hY pre k wr hpre HJ.out;generalize 2 ^ k*(2*m)=nx at q hlt HQ;have HE1:=aA1 e1;have HLT:=aA1 hlt;have HZ:=aA1 hz;clear e1 e2 e3 hz hlt hpre hk
   gi_wp2_with (refine ⟨trivial,?_⟩;gi_at_call 234;refine (callsIn_wide.2 (bMo cur k m _ HT.out HC.out HE1.out)).mono ?_;rintro e w' ⟨rfl,rfl⟩)
   refine hR.mono ?_
   rintro e w' (⟨rfl,hJ',hs⟩ | ⟨rfl,hJx'⟩)
   .have hbx:Boxed w' B 34 (.int .u32 (cur:Int)):=(hs.2 B HX.out.lt (.inl rfl)).trans HX.out
    have HT':Hid (aG1 w'):=HT.out.same hs.1 (hs.2 _ HT.out.1 (.inr rfl));have hc':=hbx.cell;have hf':=hbx.frozen;have hl':=hbx.lt;have HX':=aA1 hbx;have HJ':=aA1 hJ';clear hbx hJ' hs hc hf hl
    gi_wp2
    go_roundw
    case rel =>
     refine ⟨pre++[k],nx,HX'.out.set _,HT'.out.same (by simp) (Below.heap_setCell _ _ _ _ ?_),HQ.out,by have:=HC.out;have:=HLT.out;show _<_;omega,hJ _ _ _ HJ'.out (Agr.setCell _ _ _ rfl)⟩
     have h1:=HX'.out;have h2:=HT'.out.2 0 (by decide)
     intro e
     simp only at e
     subst e;rw [h1.cell] at h2;cases h2
    case measure =>
     have e1:bMb wr B=cur:=by unfold bMb;rw [HX.out.cell];simp
     have e2:∀ W:World,Boxed W B 34 (.int .u32 (nx:Int))->bMb W B=nx:=fun W h=>by unfold bMb;rw [h.cell];simp
     rw [e1,e2 _ (HX'.out.set _)];exact HLT.out
   .gi_wp2
    refine bodyPost_ret (results_none rfl _ _ _) rfl ?_
    exact ⟨⟨_,rfl⟩,.inr ⟨pre++[k],⟨_,HQ.out⟩,hJx'⟩⟩
end Go.Proofs.YtmifhmdghfbalaaGreatDoor

namespace Go.Proofs.YtmifhmdghfbalaaGreatDoor
open Go.RowKit
attribute [local go_sem] Oper.semAt_some
theorem aBk.cellX {E:Nat->Prop} {A B:World} (h:aBk E A B) {k o:Nat} {v:Value} (hc:A.cell? ⟨k,o,none⟩=some v) (hE:E k):B.cell? ⟨k,o,none⟩=some v:=by
 have hk:k<A.heap.size:=by
  rcases Nat.lt_or_ge k A.heap.size with h | h
  .exact h
  .simp [World.cell?,Array.getElem?_eq_none h] at hc
 rw [World.cell?_of_block (h.2 k hk hE)];exact hc
def aPc (legit:List Bool) (n:Nat):List Nat:=(List.range n).filter fun k => !legit.getD k false
theorem bJh {legit:List Bool} {i:Nat} (h:legit.getD i false=false):aPc legit (i+1)=aPc legit i++[i]:=by
 unfold aPc;rw [List.range_succ,List.filter_append,List.filter_cons_of_pos (by show (!legit.getD i false)=true;rw [h];rfl),List.filter_nil]
theorem bL6 {legit:List Bool} {i:Nat} (h:legit.getD i false=true):aPc legit (i+1)=aPc legit i:=by
 unfold aPc;rw [List.range_succ,List.filter_append,List.filter_cons_of_neg (by show ¬ (!legit.getD i false)=true;rw [h];decide),List.filter_nil,List.append_nil]
theorem bJg {legit:List Bool} {i n:Nat} (h:i<=n):aPc legit i <+: aPc legit n:=by
 obtain ⟨m,rfl⟩:∃ m,n=i+m:=⟨n-i,by omega⟩
 unfold aPc;rw [List.range_add,List.filter_append];exact List.prefix_append _ _
def upN (n:Nat):Value->Nat
 | .int _ x=>n-x.toNat
 | _=>0
theorem aHv (A:Option Addr) (n c:Nat) (w:World) :
  Calls prog 85 #[.slice A n c] w fun e w'=>e = .returned (.func (.func 134) #[] #[.pointer (some ⟨w.heap.size,0,none⟩)])/\w'=w.alloc (.cells #[.slice A n c] 58):=by
 go_enter func85,ntmps85;go_wp2;go_ret;exact ⟨rfl,rfl⟩
theorem aMp (n:Nat) (B b o cp:Nat) (A:Option Addr) (legit:List Bool) (w:World) (hn:1<=n) (hB:Boxed w B 58 (.slice A legit.length cp)) (hb:b<w.heap.size) (hA:0<legit.length->A=some ⟨b,o,none⟩) (hv:∀ v (h:v<legit.length),w.cell? ⟨b,o+v,none⟩=some (.bool legit[v])) (hl:legit.length<=1000) :
  bHy Fence.wide n prog 134 #[.pointer (some ⟨B,0,none⟩)] (fun v:Nat=>#[.int .i64 (v:Int)]) (fun _=>False) (fun k=>k=B∨k=b) (aPc legit legit.length) w:=by
 intro lp J Jx W hW hJ hJx hY h0
 have HBW:Hid (Boxed W B 58 (.slice A legit.length cp)):=(hW.block B hB.lt).trans hB;have HVW:Hid (∀ v (h:v<legit.length),W.cell? ⟨b,o+v,none⟩=some (.bool legit[v])):=fun v h=>(hW.cell hb).trans (hv v h);have hbW:=Nat.lt_of_lt_of_le hb hW.size;clear hB hv hb;refine callsIn_of_wp func134 rfl trivial ?_ rfl
 simp only [ntmps134,List.size_toArray,List.length_cons,List.length_nil,Nat.reduceAdd,Nat.reduceSub,Array.replicate_succ,Array.replicate_zero,List.push_toArray,List.append_toArray,List.nil_append,List.cons_append]
 have c0:=HBW.out.cell;have f0:=HBW.out.frozen;have l0:=HBW.out.lt
 gi_wp2
 clear c0 f0 l0
 gi_loopw [7] (fun p wr=>∃ (i:Nat),p = .int .i64 (i:Int)/\i<=legit.length/\Hid (Boxed wr B 58 (.slice A legit.length cp))/\Hid (∀ v (h:v<legit.length),wr.cell? ⟨b,o+v,none⟩=some (.bool legit[v]))/\b<wr.heap.size/\Hid (J (aPc legit i) wr)) (fun p _=>upN legit.length p)
 case atStart=>exact ⟨0,rfl,by omega,HBW,HVW,hbW,h0⟩
 case round =>
  clear h0 HBW HVW hbW;obtain ⟨i,rfl,hi,HX,HV,hb,HJ⟩:=hrel
  by_cases hlt:i<legit.length
  .have hd0:decide (i<legit.length)=true:=by simpa using hlt
   have hkI:(i:Int)<(legit.length:Int):=by omega
   obtain rfl:=hA (by omega)
   have hcv:=HV.out i hlt;have hg:legit.getD i false=legit[i]:=aA7 hlt;cases hb1:legit[i] with
   | true =>
    rw [hb1] at hg hcv;have HO:=aA1 (bL6 hg);clear hg hb1
    gi_wp2
    refine ⟨fun f h=>(by cases h),?_⟩
    gi_wp2
    go_roundw
    case rel=>exact ⟨i+1,by go_num,by omega,HX,HV,hb,by show J _ _;rw [HO.out];exact HJ.out⟩
    case measure=>simp [upN];omega
   | false =>
    rw [hb1] at hg hcv;have HO:=aA1 (bJh hg);have hpre:aPc legit i++[i] <+: aPc legit legit.length:=by rw [<- HO.out];exact bJg (by omega)
    have HP:=aA1 hpre;obtain ⟨fn,tmps,assign,body,hy,hR⟩:=hY (aPc legit i) i wr hpre HJ.out;clear hg hb1 hpre
    gi_wp2
    refine hR.mono ?_
    rintro e w' (⟨rfl,hJ',hs⟩ | ⟨rfl,hJx'⟩)
    .have HX':Hid (Boxed w' B 58 (.slice (some ⟨b,o,none⟩) legit.length cp)):=(hs.2 B HX.out.lt (.inr (.inl rfl))).trans HX.out
     have HV':Hid (∀ v (h:v<legit.length),w'.cell? ⟨b,o+v,none⟩=some (.bool legit[v])):=fun u hu=>hs.cellX (HV.out u hu) (.inr (.inr rfl));have hb':=Nat.lt_of_lt_of_le hb hs.1;have HJ':=aA1 hJ';clear hJ' hs hcv
     gi_wp2
     go_roundw
     case rel=>exact ⟨i+1,by go_num,by omega,HX',HV',hb',by show J _ _;rw [HO.out];exact HJ'.out⟩
     case measure=>simp [upN];omega
    .gi_wp2
     refine bodyPost_ret (results_none rfl _ _ _) rfl ?_
     exact ⟨⟨_,rfl⟩,.inr ⟨aPc legit i++[i],HP.out,hJx'⟩⟩
  .have hd0:decide (i<legit.length)=false:=by simpa using hlt
   obtain rfl:i=legit.length:=by omega
   gi_wp2
   go_end0
   exact ⟨⟨_,rfl⟩,.inl HJ.out⟩
end Go.Proofs.YtmifhmdghfbalaaGreatDoor

namespace Go.Proofs.YtmifhmdghfbalaaGreatDoor
def aIg (g:Graph) (c:aA8) (v:Nat) (e:List Term):Bool:=aAw g c v (-1) (aAm e) != 0
def aBy (rs:List Rule) (g:Graph) (c:aA8) (v:Nat):Int:=match rs.findIdx? (fun r=>aIg g c v r.guard) with | some i=>(i:Int) | none => -1
theorem aP5 {rs:List Rule} {g:Graph} {c:aA8} {v j:Nat} (h:j<rs.length) (ha:(rs.take j).all (fun r => !(aIg g c v r.guard))=true) (hj:aIg g c v rs[j].guard=true):aBy rs g c v=(j:Int):=by
 unfold aBy
 have:rs.findIdx? (fun r=>aIg g c v r.guard)=some j:=by
  rw [List.findIdx?_eq_some_iff_getElem];refine ⟨h,hj,fun k hk=>?_⟩
  have:=List.all_eq_true.1 ha rs[k] (by rw [List.mem_take_iff_getElem];exact ⟨k,by omega,rfl⟩)
  simpa using this
 rw [this]
theorem aQz {rs:List Rule} {g:Graph} {c:aA8} {v:Nat} (ha:rs.all (fun r => !(aIg g c v r.guard))=true):aBy rs g c v = -1:=by
 unfold aBy
 have:rs.findIdx? (fun r=>aIg g c v r.guard)=none:=by
  rw [List.findIdx?_eq_none_iff];intro x hx
  have:=List.all_eq_true.1 ha x hx;simpa using this
 rw [this]
theorem aP4 (rs:List Rule) (g:Graph) (c:aA8) (v:Nat) :
  (aBy rs g c v = -1/\∀ r∈rs,aIg g c v r.guard=false) ∨
  ∃ k:Nat,∃ hk:k<rs.length,aBy rs g c v=(k:Int)/\aIg g c v rs[k].guard=true/\∀ i (hi:i<k),aIg g c v rs[i].guard=false:=by
 unfold aBy;cases hf:rs.findIdx? (fun r=>aIg g c v r.guard) with
 | none =>
  left
  rw [List.findIdx?_eq_none_iff] at hf;exact ⟨rfl,fun r hr=>by simpa using hf r hr⟩
 | some k =>
  right
  rw [List.findIdx?_eq_some_iff_getElem] at hf;obtain ⟨hk,h1,h2⟩:=hf;exact ⟨k,hk,rfl,h1,fun i hi=>by simpa using h2 i hi⟩
theorem aP6 (rs:List Rule) (g:Graph) (c:aA8) (v:Nat) : -1<=aBy rs g c v/\aBy rs g c v<rs.length:=by
 rcases aP4 rs g c v with ⟨h,_⟩ | ⟨k,hk,h,_⟩ <;> omega
def aHj (kind:Int) (b:Int × Int) (x:Int):Int:=if b.1<=x/\x<=b.2 then x else if kind=3 then -1 else if x<b.1 then b.1 else b.2
def bEj (p:Prg) (x:Int):Var:=p.vars.getD x.toNat default
def aL5 (p:Prg) (g:Graph) (c:aA8) (v:Nat) (t:SetT):Int:=aHj (bEj p t.var).kind (aAg (bEj p t.var) g v) (aAw g c v (-1) (aAm t.value))
def aD0 (p:Prg) (g:Graph) (c:aA8) (v:Nat) (l:List SetT):List Int:=l.foldl (fun s t=>s.set t.var.toNat (aL5 p g c v t)) (c.getD v [])
def bH0 (p:Prg) (k:Int):Rule:=p.rules.getD k.toNat default
def aLv (p:Prg) (g:Graph) (c:aA8) (v:Nat):List Int:=aD0 p g c v (bH0 p (aBy p.rules g c v)).sets
def aCm (p:Prg) (g:Graph) (c:aA8):Nat:=aPp c.length fun v=>decide (0<=aBy p.rules g c v)
def aEy (p:Prg) (g:Graph) (c:aA8) (S:Nat):aA8:=(List.range c.length).map fun v=>if S.testBit v then aLv p g c v else c.getD v []
def aPy (p:Prg) (g:Graph) (c:aA8):Nat:=if aCp p g c≠0 then 0 else aCm p g c
def aUd (p:Prg) (g:Graph) (c:aA8) (S:Nat):aA8 × Int :=
 if aCp p g c≠0 then ([],aCp p g c) else if S=0∨aBh S (aCm p g c)=false then ([],11) else (aEy p g c S,0)
theorem aNi (p:Prg) (g:Graph) (c:aA8) (v:Nat) (l:List SetT):(aD0 p g c v l).length=(c.getD v []).length:=by
 unfold aD0
 suffices ∀ s:List Int,(l.foldl (fun s t=>s.set t.var.toNat (aL5 p g c v t)) s).length=s.length from this _
 induction l with
 | nil=>intro s;rfl
 | cons t l ih=>intro s;rw [List.foldl_cons,ih];simp
theorem aRj (p:Prg) (g:Graph) (c:aA8) (v:Nat) (l:List SetT) (j:Nat) (h:j<l.length):aD0 p g c v (l.take (j+1))=(aD0 p g c v (l.take j)).set l[j].var.toNat (aL5 p g c v l[j]):=by
 unfold aD0;rw [List.take_succ_eq_append_getElem h,List.foldl_append];rfl
theorem aJh {p:Prg} {g:Graph} (hf:aCf p g=0) {x:Var} (hx:x∈p.vars) (v:Nat):(aAg x g v).1<=(aAg x g v).2/\(x.kind=3->(aAg x g v).1 = -1):=by
 obtain ⟨h1,h2,h3⟩:=aAe hf;have h4:=List.all_eq_true.1 h3 x hx;have h5:=aFq (List.all_eq_true.1 (aB6 h1).1 x hx);unfold aJg at h4;have h4:=of_decide_eq_true h4;unfold aAg at h4 ⊢
 rcases h5 with h | h | h
 .rw [if_pos h.1];simp;omega
 .rw [if_neg (by omega),if_pos h.1];simp;omega
 .have hk:=h.1
  rw [if_neg (by omega),if_neg (by omega)] at h4 ⊢
  dsimp only at h4 ⊢;omega
theorem aWl {kind:Int} {b:Int × Int} (h:b.1<=b.2) (hk:kind=3->b.1 = -1) (x:Int):b.1<=aHj kind b x/\aHj kind b x<=b.2:=by
 unfold aHj;split
 .assumption
 split
 .have:=hk (by assumption);omega
 split <;> omega
theorem bCu {kind:Int} {b:Int × Int} (h:b.1<=b.2) (x:Int):aHj kind b x=if kind=3/\¬ (b.1<=x/\x<=b.2) then -1 else min (max x b.1) b.2:=by
 unfold aHj
 by_cases h1:b.1<=x/\x<=b.2
 .rw [if_pos h1,if_neg (by omega)];omega
 .rw [if_neg h1]
  by_cases h2:kind=3
  .rw [if_pos h2,if_pos ⟨h2,h1⟩]
  .rw [if_neg h2,if_neg (show ¬ (kind=3/\¬ (b.1<=x/\x<=b.2)) from fun h=>h2 h.1)]
   by_cases h3:x<b.1
   .rw [if_pos h3];omega
   .rw [if_neg h3];omega
theorem aVy {p:Prg} (hc:aBm p=0) {r:Rule} (hr:r∈p.rules) {s:SetT} (hs:s∈r.sets):(aAm s.value).ok/\(aAm s.value).terms=s.value/\(∀ t∈s.value,aHz t p.vars.length=true)/\aBd false (aAm s.value)/\0<=s.var/\s.var<=(p.vars.length:Int)-1:=by
 obtain ⟨h1,_,h3,_,_,h6,h7⟩:=aB6 hc;obtain ⟨hv,hval⟩:=(h6 r hr).sets s hs;obtain ⟨t1,t2,_,t4,_,_⟩:=aDi hval;refine ⟨t1,t2,t4,aLi (kinds:=aAx p) (b:=false) ?_,hv.1,hv.2⟩
 have h8:=h7 r hr;unfold aCt at h8;simp only [Bool.and_eq_true,List.all_eq_true,beq_iff_eq] at h8
 rw [h8.2 s hs];obtain ⟨x,hx⟩:=Int.eq_ofNat_of_zero_le hv.1;rw [hx,Int.toNat_natCast,aA7 (by rw [aDl];omega)]
 have:=aR8 h1;have hk:=List.all_eq_true.1 this _ (List.getElem_mem (show x<(aAx p).length by rw [aDl];omega))
 unfold aEt at hk;simp at hk
 omega
theorem aQo {p:Prg} {g:Graph} {c:aA8} (hm:aCp p g c=0) {v:Nat} (hv:v<c.length):aG0 (aEp p g v) (c.getD v [])=true:=by
 obtain ⟨_,h2⟩:=aBn hm;obtain ⟨h3,h4⟩:=aCy.1 h2;have:=h4 v hv (by omega)
 rw [aDe] at this
 rwa [aA7 hv]
theorem aXx {p:Prg} {g:Graph} {c d:aA8} (hm:aCp p g c=0) (hl:d.length=c.length) (h:∀ v,v<d.length->aG0 (aEp p g v) (d.getD v [])=true):aCp p g d=0:=by
 obtain ⟨h1,h2⟩:=aBn hm
 have h3:aJd (aAa p g) d=true:=by
  rw [aCy];refine ⟨by rw [hl];exact (aCy.1 h2).1,fun v a b=>?_⟩
  rw [aDe];have:=h v a
  rwa [aA7 a] at this
 unfold aCp;rw [if_neg (by simpa using h1),h3];simp
theorem aCa {p:Prg} {g:Graph} {c:aA8} (hm:aCp p g c=0):c.length=g.ports.length:=by
 obtain ⟨h1,h2⟩:=aBn hm;rw [(aCy.1 h2).1,aAj,(aAe h1).2.1.ids]
theorem bGy {p:Prg} {g:Graph} {c:aA8} (hm:aCp p g c=0) {v:Nat} (hv:v<c.length):(c.getD v []).length=p.vars.length:=by
 rw [(aCn.1 (aQo hm hv)).1,aBu]
theorem bJx {p:Prg} {x:Int} (h0:0<=x) (h1:x<=(p.vars.length:Int)-1):∃ i:Nat,∃ hi:i<p.vars.length,x=(i:Int)/\x.toNat=i/\bEj p x=p.vars[i]:=by
 obtain ⟨i,rfl⟩:=Int.eq_ofNat_of_zero_le h0;exact ⟨i,by omega,rfl,Int.toNat_natCast i,by unfold bEj;rw [Int.toNat_natCast];exact aA7 (by omega)⟩
theorem bAf {p:Prg} {g:Graph} {c:aA8} (hm:aCp p g c=0) {v:Nat} (hv:v<c.length) {l:List SetT} (hl:∀ s∈l,0<=s.var/\s.var<=(p.vars.length:Int)-1):aG0 (aEp p g v) (aD0 p g c v l)=true:=by
 have hf:=(aBn hm).1;unfold aD0
 suffices ∀ s:List Int,aG0 (aEp p g v) s=true->aG0 (aEp p g v) (l.foldl (fun s t=>s.set t.var.toNat (aL5 p g c v t)) s)=true from this _ (aQo hm hv)
 induction l with
 | nil=>intro s h;exact h
 | cons t l ih =>
  intro s h
  rw [List.foldl_cons];refine ih (fun s hs=>hl s (by simp [hs])) _ ?_
  obtain ⟨h0,h1⟩:=hl t (by simp)
  obtain ⟨i,hi,_,ei,ev⟩:=bJx h0 h1;rw [ei];obtain ⟨a1,a2⟩:=aCn.1 h;rw [aCn];refine ⟨by simpa using a1,fun k b1 b2=>?_⟩
  by_cases hk:i=k
  .subst hk
   rw [List.getElem_set_self,aVv];unfold aL5;rw [ev];obtain ⟨q1,q2⟩:=aJh hf (List.getElem_mem hi) v;exact aWl q1 q2 _
  .rw [List.getElem_set_ne hk]
   exact a2 k (by simpa using b1) b2
theorem bH1 {p:Prg} (hc:aBm p=0) {k:Nat} (hk:k<p.rules.length):∀ s∈p.rules[k].sets,0<=s.var/\s.var<=(p.vars.length:Int)-1:=fun s hs=>by
 obtain ⟨_,_,_,_,h5,h6⟩:=aVy hc (List.getElem_mem hk) hs;exact ⟨h5,h6⟩
theorem aS7 {p:Prg} {k:Nat} (hk:k<p.rules.length):bH0 p (k:Int)=p.rules[k]:=by
 unfold bH0;rw [Int.toNat_natCast];exact aA7 hk
theorem aTt {p:Prg} {g:Graph} {c:aA8} (hm:aCp p g c=0) {v:Nat} (hv:v<c.length) (hen:0<=aBy p.rules g c v):aG0 (aEp p g v) (aLv p g c v)=true:=by
 rcases aP4 p.rules g c v with ⟨h,_⟩ | ⟨k,hk,h,_⟩
 .omega
 .unfold aLv
  rw [h,aS7 hk];exact bAf hm hv (bH1 (aAe (aBn hm).1).1 hk)
theorem aFv (p:Prg) (g:Graph) (c:aA8) (S:Nat):(aEy p g c S).length=c.length:=by simp [aEy]
theorem aSg (p:Prg) (g:Graph) (c:aA8) (S:Nat) {v:Nat} (hv:v<c.length):(aEy p g c S).getD v []=if S.testBit v then aLv p g c v else c.getD v []:=by
 rw [aA7 (by rw [aFv];exact hv)]
 simp [aEy]
theorem aKn {p:Prg} {g:Graph} {c:aA8} {v:Nat}:(aCm p g c).testBit v=(decide (v<c.length)&&decide (0<=aBy p.rules g c v)):=aJv _ _ _
theorem bCb {p:Prg} {g:Graph} {c:aA8} (hm:aCp p g c=0) {S:Nat} (hS:∀ v,v<c.length->S.testBit v=true->0<=aBy p.rules g c v):aCp p g (aEy p g c S)=0:=by
 refine aXx hm (aFv _ _ _ _) fun v hv=>?_
 rw [aFv] at hv;rw [aSg p g c S hv];cases hb:S.testBit v with
 | true=>exact aTt hm hv (hS v hv hb)
 | false=>exact aQo hm hv
def bBw (g:Graph) (S:Nat):Nat:=aPp g.ports.length fun v=>(g.ports.getD v []).any fun l=>aR0 S l.to
def bLg (S v:Nat) (b:Bool):Nat:=if b then S|||2 ^ v else S
theorem bKi {S v:Nat} (hS:S<4294967296) (hv:v<32) (b:Bool):bLg S v b<4294967296:=by
 unfold bLg;split
 .exact Nat.or_lt_two_pow (n:=32) hS (aL8 hv)
 .exact hS
theorem bCj (S v:Nat):bLg S v true|||2 ^ v=bLg S v true:=by
 unfold bLg;rw [if_pos rfl,Nat.or_assoc,Nat.or_self]
def aZb (ls:List Link):Nat:=ls.foldl (fun s l=>s|||2 ^ l.to.toNat) 0
def aY0 (g:Graph) (v:Nat):Nat:=aZb (g.ports.getD v [])
theorem bGg (ls:List Link) (l:Link):aZb (ls++[l])=aZb ls|||2 ^ l.to.toNat:=by unfold aZb;rw [List.foldl_append];rfl
theorem aVk (ls:List Link) (u:Nat):∀ s:Nat,(ls.foldl (fun s l=>s|||2 ^ l.to.toNat) s).testBit u=(s.testBit u||ls.any fun l=>l.to.toNat==u):=by
 induction ls with
 | nil=>intro s;simp
 | cons l ls ih =>
  intro s
  rw [List.foldl_cons,ih,Nat.testBit_or,aMy,List.any_cons,Bool.or_assoc];rfl
theorem bBy (ls:List Link) (u:Nat):(aZb ls).testBit u=ls.any fun l=>l.to.toNat==u:=by
 unfold aZb;rw [aVk,Nat.zero_testBit,Bool.false_or]
theorem bGf {ls:List Link} (h:∀ l∈ls,l.to.toNat<32):aZb ls<4294967296:=by
 apply Nat.lt_pow_two_of_testBit (n:=32)
 intro i hi
 rw [bBy,List.any_eq_false];intro l hl
 have:=h l hl;simp;omega
theorem aRg {g:Graph} (hg:GOK g) {v:Nat} (hv:v<g.ports.length) {l:Link} (hl:l∈g.ports[v]):0<=l.to/\l.to<(g.ports.length:Int):=by
 obtain ⟨a1,a2,_⟩:=aCb.1 ((aC1.1 (hg.links v hv)).1 l hl);exact ⟨a1,a2⟩
theorem bL2 {g:Graph} (hg:GOK g) (v:Nat):aY0 g v<4294967296:=by
 unfold aY0
 by_cases hv:v<g.ports.length
 .rw [aA7 hv]
  refine bGf fun l hl=>?_
  have:=aRg hg hv hl;have:=hg.le;omega
 .rw [List.getD_eq_getElem?_getD,List.getElem?_eq_none (by omega)];decide
theorem aVl {g:Graph} {v u:Nat} (hv:v<g.ports.length):(aY0 g v).testBit u=true↔∃ l∈g.ports[v],l.to.toNat=u:=by
 unfold aY0;rw [aA7 hv,bBy,List.any_eq_true];simp
theorem aKj {A B:Nat}:A&&&B=0↔∀ u,A.testBit u=true->B.testBit u=false:=by
 constructor
 .intro h u hA
  have:=Nat.testBit_and A B u;rw [h,Nat.zero_testBit,hA,Bool.true_and] at this;exact this.symm
 .intro h
  refine Nat.eq_of_testBit_eq fun u=>?_
  rw [Nat.testBit_and,Nat.zero_testBit];cases hA:A.testBit u with
  | false=>rfl
  | true=>rw [h u hA];rfl
theorem bBx {g:Graph} (hg:GOK g) {S v:Nat}:(bBw g S).testBit v=(decide (v<g.ports.length)&&(aY0 g v&&&S != 0)):=by
 unfold bBw;rw [aJv]
 by_cases hv:v<g.ports.length
 .rw [decide_eq_true hv,Bool.true_and,Bool.true_and,Bool.eq_iff_iff,List.any_eq_true,bne_iff_ne,ne_eq,aKj,aA7 hv]
  constructor
  .rintro ⟨l,hl,hb⟩ hall
   obtain ⟨a1,a2⟩:=aRg hg hv hl;have hle:=hg.le;unfold aR0 at hb;simp at hb
   have:=hall l.to.toNat ((aVl hv).2 ⟨l,hl,rfl⟩);rw [hb.2] at this;cases this
  .intro hn
   apply Classical.byContradiction
   intro hx
   apply hn
   intro u hu
   obtain ⟨l,hl,rfl⟩:=(aVl hv).1 hu;obtain ⟨a1,a2⟩:=aRg hg hv hl;have hle:=hg.le;cases hb:S.testBit l.to.toNat with
   | false=>rfl
   | true=>exact absurd ⟨l,hl,by unfold aR0;rw [decide_eq_true a1,decide_eq_true (show l.to<32 by omega),hb];rfl⟩ hx
 .rw [decide_eq_false hv];rfl
def aM3 (g:Graph) (S:Nat):Bool:=(aB1 S).all fun v=>aY0 g v&&&S==0
theorem aUk {S n:Nat} (hn:n<=32) (hS:S<4294967296):aBh S (aPp n fun _=>true)=true↔∀ v,S.testBit v=true->v<n:=by
 rw [aB5];constructor
 .intro h v hv
  have:=h v (aP0 hS hv) hv;rw [aJv] at this;simpa using this
 .intro h v _ hv
  rw [aJv,decide_eq_true (h v hv)];rfl
theorem aLh {g:Graph} {S:Nat} (hS:S<4294967296):aM3 g S=true↔∀ v,S.testBit v=true->aY0 g v&&&S=0:=by
 unfold aM3;rw [List.all_eq_true];constructor
 .intro h v hv
  have:=h v (aDt.2 ⟨aP0 hS hv,hv⟩);simpa using this
 .intro h v hv
  simpa using h v (aDt.1 hv).2
theorem bJc {g:Graph} (hg:GOK g) {S:Nat} (hS:S<4294967296) (hw:aBh S (aPp g.ports.length fun _=>true)=true):(bBw g S&&&S==0)=aM3 g S:=by
 have hle:=hg.le;have hn:=(aUk (by omega) hS).1 hw
 rw [Bool.eq_iff_iff,beq_iff_eq,aLh hS,Nat.and_comm,aKj];constructor
 .intro h v hv
  have:=h v hv;rw [bBx hg,decide_eq_true (hn v hv),Bool.true_and] at this;simpa using this
 .intro h v hv
  rw [bBx hg,h v hv];simp
def aBg (g:Graph) (kind:Int) (E S:Nat):Bool :=
 if S=0 then false else if aBh S E=false then false
 else if kind=1 then (S&&&(S-1))==0
 else if kind=2 then aM3 g S
 else if kind=4 then S==E
 else true
def aBf (g:Graph) (kind:Int) (E:Nat):List Nat × Int :=
 if E=0 then ([],0)
 else if kind=1 then ((aB1 E).map (2 ^ ·),0)
 else if kind=4 then ([E],0)
 else if 10<(aB1 E).length then ([],3)
 else ((aAo E (lsb E)).filter (aBg g kind E),0)
def aGw (kind:Int):Bool:=decide (1<=kind)&&decide (kind<=4)
open Go.RowKit
attribute [local go_sem] Oper.semAt_some
def aOx (w:World) (b o:Nat) (x:Nat):Prop:=w.cell? ⟨b,o,none⟩=some (.int .u32 (x:Int))
theorem aOx.keeps:aO4 aOx:=fun _ _ _ _ _ k hb h=>(k.cell hb).trans h
def aK2:=aAh 1 aOx
theorem aK2.keep {w w':World} {A:Option Addr} {n:Nat} {xs:List Nat} (h:aK2 w A n xs) (k:Bel w w'):aK2 w' A n xs:=aAh.keep aOx.keeps h k
theorem aK2.at_ {w:World} {A:Option Addr} {n:Nat} {xs:List Nat} (h:aK2 w A n xs) (k:Nat) (hk:k<xs.length) :
  ∃ b o,A=some ⟨b,o,none⟩/\b<w.heap.size/\w.cell? ⟨b,o+k,none⟩=some (.int .u32 (xs[k]:Int)):=by
 obtain ⟨b,o,e,hb,h⟩:=aAh.at_ h k hk;exact ⟨b,o,e,hb,by rw [Nat.mul_one] at h;exact h⟩
def bDr (g:Graph):List Nat:=(List.range g.ports.length).map (aY0 g)
def bB7 (w:World) (A:Option Addr) (g:Graph):Prop:=aK2 w A g.ports.length (bDr g)
theorem bB7.keep {w w':World} {A:Option Addr} {g:Graph} (h:bB7 w A g) (k:Bel w w'):bB7 w' A g:=aK2.keep h k
theorem bB7.at_ {w:World} {A:Option Addr} {g:Graph} (h:bB7 w A g) {v:Nat} (hv:v<g.ports.length) :
  ∃ b o,A=some ⟨b,o,none⟩/\b<w.heap.size/\w.cell? ⟨b,o+v,none⟩=some (.int .u32 (aY0 g v:Int)):=by
 obtain ⟨b,o,e,hb,h⟩:=aK2.at_ h v (by unfold bDr;simpa using hv)
 refine ⟨b,o,e,hb,?_⟩
 rw [h];simp [bDr]
theorem bFx (A:Option Addr) (c:Nat) (g:Graph) (S:Nat) (w:World) (hN:bB7 w A g) (hT:aG1 w) (hS:S<4294967296) (hw:∀ v,S.testBit v=true->v<g.ports.length) (hg:GOK g) :
  Calls prog 228 #[.slice A g.ports.length c,.int .u32 (S:Int)] w fun e w'=>e = .returned (.bool (aM3 g S))/\Bel w w':=by
 have HN:=aA1 (fun w' (k:Bel w w')=>hN.keep k);have HT:=aA1 (fun w' (k:Bel w w')=>hT.keep k);refine aF5 func228 rfl ?_
 simp only [ntmps228,List.size_toArray,List.length_cons,List.length_nil,Nat.reduceAdd,Nat.reduceSub,Array.replicate_succ,Array.replicate_zero,List.push_toArray,List.append_toArray,List.nil_append,List.cons_append]
 go_wp2_with (go_at_call 174;refine (aJp _ _).mono ?_;rintro e w' ⟨rfl,rfl⟩)
 obtain ⟨W0,hW0⟩:∃ W0,(((w.alloc (.cells #[.slice A g.ports.length c] 93)).alloc (.cells #[.int .u32 (S:Int)] 34)).alloc (.cells #[.bool false] 4)).alloc (.cells #[.int .u32 (S:Int)] 34)=W0:=⟨_,rfl⟩;have b1:Boxed W0 w.heap.size 93 (.slice A g.ports.length c):=by rw [<- hW0];exact (((Boxed.new w _ _).alloc _).alloc _).alloc _
 have b2:Boxed W0 (w.heap.size+1) 34 (.int .u32 (S:Int)):=by
  rw [<- hW0];have:=Boxed.new (w.alloc (.cells #[.slice A g.ports.length c] 93)) 34 (.int .u32 (S:Int));rw [World.size_alloc] at this;exact (this.alloc _).alloc _
 have b3:Boxed W0 (w.heap.size+1+1) 4 (.bool false):=by
  rw [<- hW0];have:=Boxed.new ((w.alloc (.cells #[.slice A g.ports.length c] 93)).alloc (.cells #[.int .u32 (S:Int)] 34)) 4 (.bool false);rw [World.size_alloc,World.size_alloc] at this;exact this.alloc _
 have b4:Boxed W0 (w.heap.size+1+1+1) 34 (.int .u32 (S:Int)):=by
  rw [<- hW0];have:=Boxed.new (((w.alloc (.cells #[.slice A g.ports.length c] 93)).alloc (.cells #[.int .u32 (S:Int)] 34)).alloc (.cells #[.bool false] 4)) 34 (.int .u32 (S:Int));rw [World.size_alloc,World.size_alloc,World.size_alloc] at this;exact this
 have hb0:Bel w W0:=by rw [<- hW0];exact ((((Bel.refl w).alloc _).alloc _).alloc _).alloc _
 have hz0:W0.heap.size=w.heap.size+1+1+1+1:=by rw [<- hW0];simp
 rw [hW0];clear hW0;refine (wpIn_wide (n:=5)).1 ?_
 refine aFc (n:=5) rfl (by decide) (gf:=233) (lb:=#[.pointer (some ⟨w.heap.size+1+1+1,0,none⟩)]) (by simp [go_sem]) trivial (enters_of func233 (by kernel_rfl) rfl)
  (aRk 4 _ S W0 (by decide) hS b4 (HT.out _ hb0)) (by rintro k rfl;omega) (by rintro k rfl;exact (HT.out _ hb0).1) (fun _=>rfl) (fun k=>k=w.heap.size+1+1+1∨k=W0.heap.size∨k=W0.heap.size+1) (fun k=>Iff.rfl)
  (fun pre W=>Boxed W w.heap.size 93 (.slice A g.ports.length c)/\Boxed W (w.heap.size+1) 34 (.int .u32 (S:Int))/\Boxed W (w.heap.size+1+1) 4 (.bool false)/\(∀ v∈pre,aY0 g v&&&S=0)/\Bel w W)
  (fun c pre W=>c = .ret/\Boxed W (w.heap.size+1+1) 4 (.bool false)/\aM3 g S=false/\Bel w W)
  (fun s A B ⟨h1,h2,h3,h4,h5⟩ hg=>⟨hg.boxed h1 (by omega),hg.boxed h2 (by omega),hg.boxed h3 (by omega),h4,hg.belE h5 (by omega)⟩)
  (fun c s A B ⟨h1,h2,h3,h4⟩ hg=>⟨h1,hg.boxed h2 (by omega),h3,hg.belE h4 (by omega)⟩)
  ⟨b1,b2,b3,by simp,hb0⟩
  (fun x a' W=>a'={ tmps:=#[.slice A g.ports.length c,.int .u32 (S:Int),.pointer (some ⟨w.heap.size,0,none⟩),.pointer (some ⟨w.heap.size+1,0,none⟩),.pointer (some ⟨w.heap.size+1+1,0,none⟩),.int .i64 (x:Int),.int .u32 (S:Int),.func (.func 233) #[] #[.pointer (some ⟨w.heap.size+1+1+1,0,none⟩)],.int .i64 (x:Int),undef,undef,undef,undef,undef,undef,undef],defers:=[] })
  (fun _ _ _ _ h _=>h) ?assign ?body ?done ?stop
 case assign =>
  intro pre x W K hp hI hl hK
  gi_wp2
  exact hK _ _ (aBk.refl _ _) hI rfl
 case body =>
  rintro pre x a' W hp ⟨h1,h2,h3,h4,h5⟩ rfl hl ⟨r,hr⟩;obtain ⟨c1,f1,l1⟩:=aA5 h1;obtain ⟨c2,f2,l2⟩:=aA5 h2;obtain ⟨c3,f3,l3⟩:=aA5 h3;have hx:x∈aB1 S:=hp.subset (by simp)
  have hxn:=hw x (aDt.1 hx).2;obtain ⟨b,o,e,hb,hc⟩:=(HN.out _ h5).at_ hxn;subst e;have q:=aH3 (bL2 hg x) hS;have hdx:decide (x<g.ports.length)=true:=by simpa using hxn
  generalize hnv:aY0 g x=N at *;refine wpIn_block (wpIn_seq ?_)
  refine aAd.startIn (fun w'=>w'.cell? ⟨w.heap.size,0,none⟩=some (.slice (some ⟨b,o,none⟩) g.ports.length c)/\w'.cell? ⟨w.heap.size+1,0,none⟩=some (.int .u32 (S:Int))/\w'.cell? ⟨b,o+x,none⟩=some (.int .u32 (N:Int))/\w.heap.size<w'.heap.size/\w.heap.size+1<w'.heap.size/\b<w'.heap.size) 6 (by kernel_rfl) (by kernel_rfl) (by rintro ⟨_,_,h⟩;exact h) ?_
  have hHeld:W.drew.cell? ⟨w.heap.size,0,none⟩=some (.slice (some ⟨b,o,none⟩) g.ports.length c)/\W.drew.cell? ⟨w.heap.size+1,0,none⟩=some (.int .u32 (S:Int))/\W.drew.cell? ⟨b,o+x,none⟩=some (.int .u32 (N:Int))/\w.heap.size<W.drew.heap.size/\w.heap.size+1<W.drew.heap.size/\b<W.drew.heap.size:=⟨c1,c2,hc,l1,l2,hb⟩
  by_cases hz:N&&&S=0
  .rw [hz] at q
   (refine aAd.t (v:=?_) 0 9 rfl rfl (by kernel_rfl) (fun _ _ _ h=>h) hHeld (Or.inl ⟨by rfl,?_⟩) ?_;rotate_left 1;focus (intro w' hSw;(try dsimp only at hSw);go_simp;(try with_reducible rfl);done))
   (refine aAd.t (v:=?_) 1 10 rfl rfl (by kernel_rfl) (fun _ _ _ h=>h) hHeld (Or.inl ⟨by rfl,?_⟩) ?_;rotate_left 1;focus (intro w' hSw;(try dsimp only at hSw);go_simp;(try with_reducible rfl);done))
   (refine aAd.t (v:=?_) 2 11 rfl rfl (by kernel_rfl) (fun _ _ _ h=>h) hHeld (Or.inl ⟨by rfl,?_⟩) ?_;rotate_left 1;focus (intro w' hSw;(try dsimp only at hSw);go_simp;(try with_reducible rfl);done))
   (refine aAd.t (v:=?_) 3 12 rfl rfl (by kernel_rfl) (fun _ _ _ h=>h) hHeld (Or.inl ⟨by rfl,?_⟩) ?_;rotate_left 1;focus (intro w' hSw;(try dsimp only at hSw);go_simp;(try with_reducible rfl);done))
   (refine aAd.t (v:=?_) 4 13 rfl rfl (by kernel_rfl) (fun _ _ _ h=>h) hHeld (Or.inl ⟨by rfl,?_⟩) ?_;rotate_left 1;focus (intro w' hSw;(try dsimp only at hSw);go_simp;(try with_reducible rfl);done))
   (refine aAd.t (v:=?_) 5 14 rfl rfl (by kernel_rfl) (fun _ _ _ h=>h) hHeld (Or.inl ⟨by rfl,?_⟩) ?_;rotate_left 1;focus (intro w' hSw;(try dsimp only at hSw);go_simp;(try with_reducible rfl);done))
   refine aAd.one (i:=6) (by kernel_rfl) rfl (fun K hK=>?_)
   go_simp
   refine hK.out _ _ (fun h=>absurd rfl h) ?_
   refine aAd.done (by kernel_rfl) ?_ _
   (try simp only [Act.put,List.setIfInBounds_toArray,List.set_cons_zero,List.set_cons_succ])
   change Code.wpIn _ _ _ _ _ _ _
   gi_wp2
   exact ⟨aBk.of_bel ((Bel.refl W).drew),h1,h2,h3,fun v hv=>by
    rcases List.mem_append.1 hv with hv | hv
    .exact h4 v hv
    .obtain rfl:v=x:=by simpa using hv
     rw [hnv];exact hz,h5.drew⟩
  .have hq:(((N&&&S:Nat):Int) != 0)=true:=by simpa using hz
   have hpf:aM3 g S=false:=by
    rw [Bool.eq_false_iff];intro hp
    have:=(aLh hS).1 hp x (aDt.1 hx).2;rw [hnv] at this;exact hz this
   generalize N&&&S=M at *
   (refine aAd.t (v:=?_) 0 9 rfl rfl (by kernel_rfl) (fun _ _ _ h=>h) hHeld (Or.inl ⟨by rfl,?_⟩) ?_;rotate_left 1;focus (intro w' hSw;(try dsimp only at hSw);go_simp;(try with_reducible rfl);done))
   (refine aAd.t (v:=?_) 1 10 rfl rfl (by kernel_rfl) (fun _ _ _ h=>h) hHeld (Or.inl ⟨by rfl,?_⟩) ?_;rotate_left 1;focus (intro w' hSw;(try dsimp only at hSw);go_simp;(try with_reducible rfl);done))
   (refine aAd.t (v:=?_) 2 11 rfl rfl (by kernel_rfl) (fun _ _ _ h=>h) hHeld (Or.inl ⟨by rfl,?_⟩) ?_;rotate_left 1;focus (intro w' hSw;(try dsimp only at hSw);go_simp;(try with_reducible rfl);done))
   (refine aAd.t (v:=?_) 3 12 rfl rfl (by kernel_rfl) (fun _ _ _ h=>h) hHeld (Or.inl ⟨by rfl,?_⟩) ?_;rotate_left 1;focus (intro w' hSw;(try dsimp only at hSw);go_simp;(try with_reducible rfl);done))
   (refine aAd.t (v:=?_) 4 13 rfl rfl (by kernel_rfl) (fun _ _ _ h=>h) hHeld (Or.inl ⟨by rfl,?_⟩) ?_;rotate_left 1;focus (intro w' hSw;(try dsimp only at hSw);go_simp;(try with_reducible rfl);done))
   (refine aAd.t (v:=?_) 5 14 rfl rfl (by kernel_rfl) (fun _ _ _ h=>h) hHeld (Or.inl ⟨by rfl,?_⟩) ?_;rotate_left 1;focus (intro w' hSw;(try dsimp only at hSw);go_simp;(try with_reducible rfl);done))
   refine aAd.one (i:=6) (by kernel_rfl) rfl (fun K hK=>?_)
   go_simp
   refine hK.out _ _ (fun h=>absurd rfl h) ?_
   refine aAd.done (by kernel_rfl) ?_ _
   (try simp only [Act.put,List.setIfInBounds_toArray,List.set_cons_zero,List.set_cons_succ])
   change Code.wpIn _ _ _ _ _ _ _
   gi_wp2
   refine ⟨(aBk.of_bel ((Bel.refl W).drew)).trans (aBk.setCell _ _ _ ?_),rfl,Boxed.set _ (show Boxed W.drew _ _ _ from h3),hpf,h5.drew.setCell (by simp;omega) _⟩
   have:=hT.1;rintro ((h | h | h) | h) <;> simp at h <;> omega
 case done =>
  rintro W ⟨h1,h2,h3,h4,h5⟩ hK;obtain ⟨c3,f3,l3⟩:=aA5 h3;have hpt:aM3 g S=true:=(aLh hS).2 fun v hv=>h4 v (aDt.2 ⟨aP0 hS hv,hv⟩);go_wp2;have h3':=h3.set (.bool true);refine aCe (B:=w.heap.size) (aDg.push (aDg.nil _ _) (by omega) ((Below.heap_setCell _ _ _ _ (by simp;omega)).trans hK) (by simp)) ?_
  intro W' hA hs
  have hr:=hA.cellD h3'.cell;exact ⟨.bool true,by simp [results,Tryz.results228,go_sem,hr],aA2 hpt.symm,hA.bel (h5.setCell (by simp;omega) _)⟩
 case stop =>
  rintro c' pre W hp ⟨rfl,h3,hpf,h5⟩ hK;refine wpIn_wide.2 ?_
  go_wp2;refine aCe (B:=w.heap.size) (aDg.push (aDg.nil _ _) (by omega) hK (by simp)) ?_
  intro W' hA hs
  have hr:=hA.cellD h3.cell;exact ⟨.bool false,by simp [results,Tryz.results228,go_sem,hr],aA2 hpf.symm,hA.bel h5⟩
end Go.Proofs.YtmifhmdghfbalaaGreatDoor

namespace Go.Proofs.YtmifhmdghfbalaaGreatDoor
theorem aOg:∀ {bs:List (Int × Int)} {cs:List Int},inL bs cs↔cs.length=bs.length/\∀ i,(h1:i<cs.length)->(h2:i<bs.length)->bs[i].1<=cs[i]/\cs[i]<=bs[i].2
 | [],[]=>by simp [inL]
 | [],_ :: _=>by simp [inL]
 | _ :: _,[]=>by simp [inL]
 | b :: bs,c :: cs=>by
  have ih:=aOg (bs:=bs) (cs:=cs);constructor
  .rintro ⟨h1,h2,h3⟩
   obtain ⟨h4,h5⟩:=ih.1 h3;refine ⟨by simp [h4],fun i a1 a2=>?_⟩
   cases i with
   | zero=>exact ⟨h1,h2⟩
   | succ i=>exact h5 i (by simpa using a1) (by simpa using a2)
  .rintro ⟨h1,h2⟩
   have h0:=h2 0 (by simp) (by simp)
   refine ⟨h0.1,h0.2,ih.2 ⟨by simpa using h1,fun i a1 a2=>?_⟩⟩
   exact h2 (i+1) (by simpa using a1) (by simpa using a2)
theorem aOh:∀ {T:List (List (Int × Int))} {C:aA8},inN T C↔C.length=T.length/\∀ v,(h1:v<C.length)->(h2:v<T.length)->inL T[v] C[v]
 | [],[]=>by simp [inN]
 | [],_ :: _=>by simp [inN]
 | _ :: _,[]=>by simp [inN]
 | t :: T,c :: C=>by
  have ih:=aOh (T:=T) (C:=C);constructor
  .rintro ⟨h1,h3⟩
   obtain ⟨h4,h5⟩:=ih.1 h3;refine ⟨by simp [h4],fun i a1 a2=>?_⟩
   cases i with
   | zero=>exact h1
   | succ i=>exact h5 i (by simpa using a1) (by simpa using a2)
  .rintro ⟨h1,h2⟩
   have h0:=h2 0 (by simp) (by simp)
   refine ⟨h0,ih.2 ⟨by simpa using h1,fun i a1 a2=>?_⟩⟩
   exact h2 (i+1) (by simpa using a1) (by simpa using a2)
theorem bFg {T:List (List (Int × Int))} {C:aA8}:aJd T C=true↔inN T C:=by
 rw [aCy,aOh];constructor
 .rintro ⟨h1,h2⟩;exact ⟨h1,fun v a b=>aOg.2 (aCn.1 (h2 v a b))⟩
 .rintro ⟨h1,h2⟩;exact ⟨h1,fun v a b=>aCn.2 (aOg.1 (h2 v a b))⟩
theorem aNf {p:Prg} {g:Graph} {c:aA8} (hm:aCp p g c=0):inN (aAa p g) c:=bFg.1 (aBn hm).2
theorem bMf {p:Prg} {g:Graph} {c:aA8} (hf:aCf p g=0) (h:inN (aAa p g) c):aCp p g c=0:=by
 unfold aCp;rw [if_neg (by simpa using hf),bFg.2 h];simp
theorem aIe {p:Prg} {g:Graph} (hf:aCf p g=0):okN (aAa p g):=by
 intro t ht
 unfold aAa at ht;obtain ⟨v,_,rfl⟩:=List.mem_map.1 ht;intro b hb
 unfold aEp at hb;obtain ⟨x,hx,rfl⟩:=List.mem_map.1 hb;exact (aJh hf hx v).1
def aC7 (p:Prg) (g:Graph):Int:=aAq (aAa p g)
def aBp (p:Prg) (g:Graph) (k:Nat):aA8:=aLt (aAa p g) (k:Int)
def aVo (p:Prg) (g:Graph) (c:aA8):Int:=aLm (aAa p g) c
def aAs (p:Prg) (g:Graph):Int × Int:=if aCf p g≠0 then (0,aCf p g) else if 32768<aC7 p g then (0,3) else (aC7 p g,0)
theorem aNx {p:Prg} {g:Graph} (hf:aCf p g=0):0<aC7 p g:=aEx (aIe hf)
theorem aEr {p:Prg} {g:Graph} (hf:aCf p g=0) {k:Nat} (hk:(k:Int)<aC7 p g):aCp p g (aBp p g k)=0:=bMf hf (aUy (aIe hf) (by omega) hk)
theorem aLl {p:Prg} {g:Graph} {c:aA8} (hm:aCp p g c=0):0<=aVo p g c/\aVo p g c<aC7 p g:=aLn (aNf hm)
theorem bGi {p:Prg} {g:Graph} (hf:aCf p g=0) {k:Nat} (hk:(k:Int)<aC7 p g):aVo p g (aBp p g k)=(k:Int):=aRm (aIe hf) (by omega) hk
structure Spc where
 enabled:List Nat
 arcs:List (List (Nat × Int))
def aEq (p:Prg) (g:Graph) (kind:Int) (c:aA8):List (Nat × Int):=(aBf g kind (aCm p g c)).1.map fun T=>(T,aVo p g (aEy p g c T))
def aNy (p:Prg) (g:Graph) (kind:Int):Spc:=⟨(List.range (aC7 p g).toNat).map fun k=>aCm p g (aBp p g k),(List.range (aC7 p g).toNat).map fun k=>aEq p g kind (aBp p g k)⟩
def aBj (p:Prg) (g:Graph) (kind:Int):Spc × Int :=
 if (aAs p g).2≠0/\(aAs p g).2≠3 then (⟨[],[]⟩,(aAs p g).2)
 else if aGw kind=false then (⟨[],[]⟩,12)
 else if (aAs p g).2≠0 then (⟨[],[]⟩,(aAs p g).2)
 else (aNy p g kind,0)
theorem aNr {S:Nat} (hS:S<4294967296):∀ n s,S-s<n->s&&&S=s->s≠0->(aAo S s).length<=S-s+1:=by
 intro n
 induction n with
 | zero=>intro s h;omega
 | succ n ih =>
  intro s hn hs h0
  rw [aEu hS hs h0,List.length_cons]
  by_cases hl:s=S
  .subst hl;rw [aHc 32 s hS,aBq];simp
  .obtain ⟨h1,h2,_⟩:=aHd 32 S s hS hs hl
   have hle:=aD1 h2;have:=ih _ (by omega) h2 (by omega)
   omega
theorem aQv {S n:Nat} (hn:n<=32) (hS:S<2 ^ n):(aB1 S).length<=n:=by
 rw [aMe hn hS];exact Nat.le_trans (List.length_filter_le _ _) (by simp)
theorem aG3 {g:Graph} {kind:Int} {E:Nat} (hE:E<32):(aBf g kind E).2=0/\(aBf g kind E).1.length<=31/\(aB1 E).length<=5:=by
 have h5:=aQv (S:=E) (n:=5) (by decide) hE
 unfold aBf
 by_cases h0:E=0
 .rw [if_pos h0];exact ⟨rfl,by simp,h5⟩
 rw [if_neg h0];split
 .exact ⟨rfl,by simp;omega,h5⟩
 split
 .exact ⟨rfl,by simp,h5⟩
 rw [if_neg (by omega)]
 refine ⟨rfl,?_,h5⟩
 have hlt:E<4294967296:=by omega
 have h1:=aNr hlt (E-lsb E+1) (lsb E) (by omega) aFo (aKp hlt h0)
 have h2:=List.length_filter_le (aBg g kind E) (aAo E (lsb E));have h3:=aD1 (aFo (S:=E));have h4:=aKp hlt h0;show (List.filter _ _).length<=31
 omega
theorem aE4 {g:Graph} {kind:Int} {E S:Nat} (h:aBg g kind E S=true):S≠0/\aBh S E=true:=by
 unfold aBg at h;split at h
 .cases h
 split at h
 .cases h
 .rename_i h1 h2
  exact ⟨h1,by simpa using h2⟩
theorem aJr {S E:Nat} (hS:S<4294967296) (hE:E<4294967296):S&&&E=S↔aBh S E=true:=by
 rw [aB5];constructor
 .intro h v _ hv
  have:=Nat.testBit_and S E v;rw [h,hv,Bool.true_and] at this;exact this.symm
 .intro h
  refine aVi (Nat.and_lt_two_pow (n:=32) S hE) hS fun v hv=>?_
  rw [Nat.testBit_and];cases hb:S.testBit v with
  | false=>rfl
  | true=>rw [h v hv hb];rfl
theorem bFl {v:Nat} (hv:v<32):aB1 (2 ^ v)=[v]:=by
 have h:=aJe (k:=v) (m:=0) (by have:=aL8 hv;simpa using this)
 simpa [aG4] using h
theorem aJm {g:Graph} {kind:Int} {E S:Nat} (hE:E<4294967296) (hk:aGw kind=true) (ho:(aBf g kind E).2=0) (hS:S<4294967296) :
  S∈(aBf g kind E).1↔aBg g kind E S=true:=by
 unfold aGw at hk;simp at hk
 unfold aBf at *
 by_cases h0:E=0
 .rw [if_pos h0]
  subst h0;constructor
  .intro h;cases h
  .intro h
   obtain ⟨h1,h2⟩:=aE4 h
   exfalso
   apply h1
   refine aVi hS (by decide) fun v hv=>?_
   rw [Nat.zero_testBit];cases hb:S.testBit v with
   | false=>rfl
   | true=>have:=aB5.1 h2 v hv hb;rw [Nat.zero_testBit] at this;cases this
 rw [if_neg h0] at ho ⊢
 by_cases h1:kind=1
 .rw [if_pos h1]
  subst h1;constructor
  .intro h
   obtain ⟨v,hv,rfl⟩:=List.mem_map.1 h;obtain ⟨hv1,hv2⟩:=aDt.1 hv;unfold aBg;rw [if_neg (Nat.ne_of_gt (Nat.two_pow_pos v))]
   have hw:aBh (2 ^ v) E=true:=by
    rw [aB5];intro u _ hu;rw [aMy] at hu;obtain rfl:v=u:=by simpa using hu
    exact hv2
   rw [hw,if_neg (by decide),if_pos rfl,aOt hS (Nat.ne_of_gt (Nat.two_pow_pos v)),bFl hv1];rfl
  .intro h
   obtain ⟨h2,h3⟩:=aE4 h;unfold aBg at h;rw [if_neg h2,h3,if_neg (by decide),if_pos rfl,aOt hS h2,decide_eq_true_eq] at h
   obtain ⟨k,m,e,hk,_,e2,e3⟩:=aEc hS h2;rw [e3,List.length_cons] at h
   have hz:2 ^ k*(2*m)=0:=by
    refine (aIk ?_).1 (by omega)
    have:2 ^ k*(2*m)<=2 ^ k*(2*m+1):=Nat.mul_le_mul_left _ (by omega)
    omega
   have hS2:S=2 ^ k:=by rw [e,Nat.mul_add,hz];simp
   refine List.mem_map.2 ⟨k,aDt.2 ⟨hk,?_⟩,hS2.symm⟩
   refine aB5.1 h3 k hk ?_
   rw [hS2,aMy];simp
 rw [if_neg h1] at ho ⊢
 by_cases h4:kind=4
 .rw [if_pos h4]
  subst h4;rw [List.mem_singleton];constructor
  .rintro rfl
   unfold aBg;have hw:aBh S S=true:=by rw [aB5];intro _ _ h;exact h
   rw [if_neg h0,hw];simp
  .intro h
   obtain ⟨h2,h3⟩:=aE4 h;unfold aBg at h;rw [if_neg h2,h3] at h;simpa using h
 rw [if_neg h4] at ho ⊢
 by_cases h10:10<(aB1 E).length
 .rw [if_pos h10] at ho;cases ho
 rw [if_neg h10,List.mem_filter,aH6 hE (E-lsb E+1) _ (by omega) aFo (aKp hE h0)]
 constructor
 .rintro ⟨_,h⟩;exact h
 .intro h
  obtain ⟨h2,h3⟩:=aE4 h;have hp:=(aJr hS hE).2 h3;refine ⟨⟨?_,hp⟩,h⟩
  obtain ⟨k,m,e,hk,e1,_,e3⟩:=aEc hE h0;rw [e1];obtain ⟨k2,m2,e4,hk2,_,_,e5⟩:=aEc hS h2;have hb:E.testBit k2=true:=aB5.1 h3 k2 hk2 (by rw [e4,aQh];simp)
  have hkk:k<=k2:=by
   rw [e,aQh] at hb
   rcases Nat.lt_or_ge k2 k with hlt | hge
   .rw [aN5 k m k2 (by omega)] at hb;simp at hb;omega
   .exact hge
  have h6:2 ^ k<=2 ^ k2:=Nat.pow_le_pow_right (by decide) hkk
  have h7:2 ^ k2*1<=2 ^ k2*(2*m2+1):=Nat.mul_le_mul_left _ (by omega)
  omega
theorem aNg {E l:Nat} (hE:E<4294967296) (h:l∈aAo E (lsb E)):l≠0/\l&&&E=l/\l<4294967296:=by
 by_cases h0:E=0
 .subst h0
  rw [aLk,aBq] at h;cases h
 .have hm:=(aH6 hE (E-lsb E+1) (lsb E) (by omega) aFo (aKp hE h0) l).1 h
  have h1:=aKp hE h0;have h2:=aD1 hm.2;exact ⟨by omega,hm.2,by omega⟩
theorem aPk {E n:Nat} (hn:n<=32) (hE:E<2 ^ n):aBh E (aPp n fun _=>true)=true:=by
 have h32:E<4294967296:=Nat.lt_of_lt_of_le hE (Nat.pow_le_pow_right (n:=2) (by decide) hn)
 rw [aUk hn h32];intro v hv
 rcases Nat.lt_or_ge v n with h | h
 .exact h
 .have e:2 ^ n<=2 ^ v:=Nat.pow_le_pow_right (by decide) h
  rw [Nat.testBit_lt_two_pow (Nat.lt_of_lt_of_le hE e)] at hv;cases hv
theorem aZ8 {A B C:Nat} (h:aBh A B=true) (k:aBh B C=true):aBh A C=true:=by
 rw [aB5] at *;exact fun v hv hA=>k v hv (h v hv hA)
theorem bAr {g:Graph} (hg:GOK g) {kind:Int} {E l:Nat} (hE:E<2 ^ g.ports.length) (hl:l∈aAo E (lsb E)) (hk:kind=2∨kind=3) :
  aBg g kind E l=(decide (kind=3)||bBw g l&&&l==0):=by
 have hle:=hg.le;have h32:E<4294967296:=Nat.lt_of_lt_of_le hE (Nat.pow_le_pow_right (n:=2) (by decide) (show g.ports.length<=32 by omega))
 obtain ⟨h0,hp,hl32⟩:=aNg h32 hl;have hw:=(aJr hl32 h32).1 hp;unfold aBg;rw [if_neg h0,hw,if_neg (by decide)]
 rcases hk with rfl | rfl
 .rw [if_neg (by decide),if_pos rfl,<- bJc hg hl32 (aZ8 hw (aPk (by omega) hE))];simp
 .rw [if_neg (by decide),if_neg (by decide),if_neg (by decide)];simp
theorem aZv {g:Graph} (hg:GOK g) {kind:Int} {E:Nat} (hE:E<2 ^ g.ports.length) (hk:kind=2∨kind=3) :
  (aAo E (lsb E)).filter (aBg g kind E)=(aAo E (lsb E)).filter fun l=>decide (kind=3)||bBw g l&&&l==0 :=
 List.filter_congr fun _ hl=>bAr hg hE hl hk
def aN8 (g:Graph) (kind:Int) (E:Nat):List Nat × Int :=
 if kind=1 then (((List.range g.ports.length).filter (E.testBit ·)).map (2 ^ ·),0)
 else if kind=4 then (if E=0 then [] else [E],0)
 else if 10<(aB1 E).length then ([],3)
 else ((aAo E (lsb E)).filter (fun l=>decide (kind=3)||bBw g l&&&l==0),0)
theorem aWs {g:Graph} (hg:GOK g) {kind:Int} (hk:aGw kind=true) {E:Nat} (hE:E<2 ^ g.ports.length):aN8 g kind E=aBf g kind E:=by
 have hle:=hg.le;unfold aGw at hk;simp at hk
 unfold aN8 aBf
 by_cases h1:kind=1
 .rw [if_pos h1,if_pos h1,<- aMe (by omega) hE]
  by_cases h0:E=0
  .subst h0;rw [if_pos rfl,aG4];rfl
  .rw [if_neg h0]
 rw [if_neg h1,if_neg h1]
 by_cases h4:kind=4
 .rw [if_pos h4,if_pos h4]
  by_cases h0:E=0
  .rw [if_pos h0,if_pos h0]
  .rw [if_neg h0,if_neg h0]
 rw [if_neg h4,if_neg h4,aZv hg hE (by omega)]
 by_cases h0:E=0
 .subst h0;rw [if_pos rfl,aG4,if_neg (by simp),aLk,aBq];rfl
 .rw [if_neg h0]
def aDn (g:Graph) (v s:Nat):List Value:=(List.range g.ports.length).map fun u=>Value.int .u32 ((if u<v then aY0 g u else if u=v then s else 0:Nat):Int)
theorem aY3 (g:Graph):aDn g 0 0=List.replicate g.ports.length (.int .u32 0):=by
 apply List.ext_getElem
 .simp [aDn]
 .intro i h1 h2
  simp [aDn]
theorem bAi (g:Graph) {v:Nat} (_:v<g.ports.length) (s s':Nat):(aDn g v s).set v (.int .u32 (s':Int))=aDn g v s':=by
 apply List.ext_getElem
 .simp [aDn]
 .intro i h1 h2
  rw [List.getElem_set]
  by_cases h:v=i
  .subst h;rw [if_pos rfl];simp [aDn]
  .rw [if_neg h]
   simp only [aDn,List.getElem_map,List.getElem_range]
   by_cases hi:i<v
   .rw [if_pos hi,if_pos hi]
   .rw [if_neg hi,if_neg hi,if_neg (fun e=>h e.symm),if_neg (fun e=>h e.symm)]
theorem aY2 (g:Graph) (v:Nat):aDn g v (aY0 g v)=aDn g (v+1) 0:=by
 unfold aDn;refine List.map_congr_left fun u _=>?_
 by_cases h:u<v
 .rw [if_pos h,if_pos (by omega)]
 .rw [if_neg h]
  by_cases h2:u=v
  .subst h2;rw [if_pos rfl,if_pos (by omega)]
  .rw [if_neg h2,if_neg (by omega)]
   split <;> rfl
theorem bDq (g:Graph) {v:Nat} (hv:v<g.ports.length) (s:Nat):(aDn g v s)[v]?=some (.int .u32 (s:Int)):=by
 unfold aDn;rw [List.getElem?_map,List.getElem?_range hv];simp
theorem aY1 (g:Graph) (s:Nat) {u:Nat} (hu:u<g.ports.length):(aDn g g.ports.length s)[u]?=some (.int .u32 (aY0 g u:Int)):=by
 unfold aDn;rw [List.getElem?_map,List.getElem?_range hu];simp [hu]
theorem bGh {ls:List Link} {i:Nat} (hi:i<ls.length):aZb (ls.take (i+1))=aZb (ls.take i)|||2 ^ ls[i].to.toNat:=by
 rw [List.take_succ_eq_append_getElem hi,bGg]
def aK9 (T:List (List (Int × Int))):Prop:=∀ t∈T,∀ b∈t,-4096<=b.1/\b.1<=4096/\b.1<=b.2/\b.2<=80000
theorem aEd {p:Prg} {g:Graph} (hf:aCf p g=0):aK9 (aAa p g):=by
 intro t ht b hb
 unfold aAa at ht;obtain ⟨v,hv,rfl⟩:=List.mem_map.1 ht;unfold aEp at hb;obtain ⟨x,hx,rfl⟩:=List.mem_map.1 hb;obtain ⟨h1,h2,h3⟩:=aAe hf;have hv':v<g.ports.length:=by rw [<- h2.ids];exact List.mem_range.1 hv
 obtain ⟨a1,a2,a3,a4⟩:=aI4 (List.all_eq_true.1 (aB6 h1).1 x hx) h2 hv';exact ⟨a1,a2,(aJh hf hx v).1,a4⟩
theorem aOv {p:Prg} {g:Graph} {v:Nat} (hv:v<(aAa p g).length):((aAa p g)[v]).length=p.vars.length:=by simp [aAa,aEp]
theorem aK9.ok {T:List (List (Int × Int))} (h:aK9 T):okN T:=fun t ht b hb=>(h t ht b hb).2.2.1
theorem aK9.width {T:List (List (Int × Int))} (h:aK9 T) {v:Nat} (hv:v<T.length) {j:Nat} (hj:j<T[v].length):1<=T[v][j].2-T[v][j].1+1/\T[v][j].2-T[v][j].1+1<=90000:=by
 have:=h _ (List.getElem_mem hv) _ (List.getElem_mem hj);omega
theorem aK9.at_ {T:List (List (Int × Int))} (h:aK9 T) {v:Nat} (hv:v<T.length) {j:Nat} (hj:j<T[v].length) : -4096<=T[v][j].1/\T[v][j].1<=4096/\T[v][j].1<=T[v][j].2/\T[v][j].2<=80000 :=
 h _ (List.getElem_mem hv) _ (List.getElem_mem hj)
def bCx (s:Int):Int × Int:=if 32768<s then (0,3) else (s,0)
theorem aSl {p:Prg} {g:Graph} (hf:aCf p g=0):aAs p g=bCx (aC7 p g):=by
 unfold aAs bCx;rw [if_neg (by simpa using hf)]
theorem aVz {t:List (Int × Int)} {j:Nat} (hj:j<t.length):aAp (t.drop j)=(t[j].2-t[j].1+1)*aAp (t.drop (j+1)):=by
 rw [List.drop_eq_getElem_cons hj];rfl
theorem bCa {T:List (List (Int × Int))} {v:Nat} (hv:v<T.length):aAq (T.drop v)=aAp T[v]*aAq (T.drop (v+1)):=by
 rw [List.drop_eq_getElem_cons hv];rfl
def Prod (T:List (List (Int × Int))) (v j:Nat) (r:Int):Prop:=1<=r/\r<=32768/\r*(aAp ((T.getD v []).drop j)*aAq (T.drop (v+1)))=aAq T
def aUm (T:List (List (Int × Int))) (v:Nat) (r:Int):Prop:=1<=r/\r<=32768/\r*aAq (T.drop v)=aAq T
theorem aUm.start (T:List (List (Int × Int))):aUm T 0 1:=⟨by decide,by decide,by rw [List.drop_zero,Int.one_mul]⟩
theorem aUm.row {T:List (List (Int × Int))} {v:Nat} {r:Int} (h:aUm T v r) (hv:v<T.length):Prod T v 0 r:=by
 obtain ⟨h1,h2,h3⟩:=h;refine ⟨h1,h2,?_⟩
 rw [List.getD_eq_getElem?_getD,List.getElem?_eq_getElem hv,Option.getD_some,List.drop_zero,<- bCa hv];exact h3
theorem Prod.done {T:List (List (Int × Int))} {v:Nat} {r:Int} (hv:v<T.length) (h:Prod T v T[v].length r):aUm T (v+1) r:=by
 obtain ⟨h1,h2,h3⟩:=h;refine ⟨h1,h2,?_⟩
 rw [List.getD_eq_getElem?_getD,List.getElem?_eq_getElem hv,Option.getD_some,List.drop_length] at h3;rw [<- h3];show _=r*(1*_);rw [Int.one_mul]
theorem Prod.step {T:List (List (Int × Int))} {v j:Nat} {r:Int} (ho:okN T) (hv:v<T.length) (hj:j<T[v].length) (h:Prod T v j r) :
  (32768<r*(T[v][j].2-T[v][j].1+1)->32768<aAq T)/\(r*(T[v][j].2-T[v][j].1+1)<=32768->Prod T v (j+1) (r*(T[v][j].2-T[v][j].1+1))):=by
 obtain ⟨h1,h2,h3⟩:=h;have e:T.getD v []=T[v]:=by rw [List.getD_eq_getElem?_getD,List.getElem?_eq_getElem hv,Option.getD_some]
 rw [e,aVz hj,Int.mul_assoc,<- Int.mul_assoc r] at h3;have hok:okL T[v]:=ho _ (List.getElem_mem hv);have hb:=hok _ (List.getElem_mem hj);have hr:r<=r*(T[v][j].2-T[v][j].1+1):=aK7 h1 (by omega)
 have h4:=aCs (aNm hok (j+1));have h5:=aEx (aQ2 ho (v+1));have h6:=Int.mul_pos h4 h5;have h7:=aK7 (r:=r*(T[v][j].2-T[v][j].1+1)) (s:=aAp (T[v].drop (j+1))*aAq (T.drop (v+1))) (by omega) (by omega)
 refine ⟨fun h=>by omega,fun h=>⟨by omega,h,by rw [e];exact h3⟩⟩
theorem aUm.end_ {T:List (List (Int × Int))} {r:Int} (h:aUm T T.length r):bCx (aAq T)=(r,0):=by
 obtain ⟨h1,h2,h3⟩:=h;rw [List.drop_length] at h3;have:r=aAq T:=by rw [<- h3];show r=r*1;rw [Int.mul_one]
 unfold bCx;rw [if_neg (by omega),this]
theorem bIl {s:Int} (h:32768<s):bCx s=(0,3):=if_pos h
theorem aHl {p:Prg} (h:aBm p=0):1<=p.vars.length:=by
 unfold aBm at h;split at h
 .cases h
 .omega
open Go.RowKit
end Go.Proofs.YtmifhmdghfbalaaGreatDoor

