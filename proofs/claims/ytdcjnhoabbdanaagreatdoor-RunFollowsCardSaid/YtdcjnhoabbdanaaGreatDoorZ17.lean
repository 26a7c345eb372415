/- Merged. -/
import Derived.RangeFuncNested
import Derived.RangeFuncBound
import Derived.RangeFuncCalls
import Derived.RangeFuncLeaves
import Derived.Shelf.Abstract
import Derived.Shelf.RegionOpen
import Derived.WalkKit
import Derived.OwnWalkIn
import Derived.TacticsInMore
import Derived.LoopNIn
import Derived.LoopIn
import Derived.RangeFuncBox
import Derived.Test.YtdcjnhoabbdanaaGreatDoorZ16
set_option linter.unusedSimpArgs false
set_option linter.unnecessarySimpa false
set_option linter.unusedVariables false
set_option maxRecDepth 100000
set_option maxHeartbeats 2000000
open Go.Proofs.Tryz

namespace Go.Proofs.YtdcjnhoabbdanaaGreatDoor
open Go.RowKit
def aDg (w:World):Prop:=0<w.heap.size/\∀ i,i<32->w.cell? ⟨0,i,none⟩=some (.int .u8 ((bruijn.getD i 0:Nat):Int))
theorem aDg.keep {w w':World} (h:aDg w) (k:Bel w w'):aDg w':=⟨Nat.lt_of_lt_of_le h.1 k.size,fun i hi=>(k.cell h.1).trans (h.2 i hi)⟩
theorem bAr {S:Nat} (h0:S≠0) (hS:S<4294967296) : -(S:Int) % 4294967296=((4294967296-S:Nat):Int):=by omega
theorem aTu {S:Nat} (hS:S<4294967296) (h0:S≠0):bits .and .u32 (S:Int) (-(S:Int) % 4294967296)=((lsb S:Nat):Int):=by
 rw [bAr h0 hS,aCs hS (by omega)];rfl
theorem aQl {k:Nat} (hk:k<32):∃ J:Nat,J<32/\((2 ^ k:Nat):Int)*125613361 % 4294967296 / 134217728=(J:Int)/\bruijn.getD J 0=k:=by
 have h:=aWo k hk;refine ⟨2 ^ k*125613361 % 4294967296 / 134217728,?_,by omega,?_⟩
 .omega
 .rw [List.getD_eq_getElem?_getD,h];rfl
theorem bBh (S:Nat) (k m:Nat) (w:World) (hT:aDg w) (hS:S<4294967296) (e:S=2 ^ k*(2*m+1)) :
  Calls prog 120 #[.int .u32 (S:Int)] w fun e w'=>e = .returned (.int .i64 (k:Int))/\w=w':=by
 have h0:S≠0:=by rw [e];exact Nat.ne_of_gt (Nat.mul_pos (Nat.two_pow_pos k) (by omega))
 have hb:((S:Int)==0)=false:=by simp;omega
 have hlt:=hT.1;obtain ⟨k',m',e',hk,hl,_⟩:=aEw hS h0
 obtain rfl:k=k':=by
  have h1:=aGy (k:=k) (m:=m) (by rw [<- e];exact hS)
  have h2:=aGy (k:=k') (m:=m') (by rw [<- e'];exact hS)
  rw [<- e] at h1;rw [<- e',h1] at h2;injection h2
 have q1:=aTu hS h0;rw [hl] at q1;obtain ⟨J,hJ,q2,hv⟩:=aQl hk;have hc:=hT.2 J hJ;rw [hv] at hc;generalize 2 ^ k=P at q1 q2;have dJ:decide (J<32)=true:=by simpa using hJ
 clear e e' hl hv hT h0 hS hJ;go_enter func120,ntmps120
 go_wp2_with fail
 go_ret;exact ⟨rfl,rfl⟩
theorem aPi {x:Nat} (h:x<4294967296):bits .and .u32 (x:Int) 255=((x % 256:Nat):Int):=by
 rw [show (255:Int)=((255:Nat):Int) from rfl,aCs h (by decide),Nat.and_two_pow_sub_one_eq_mod x 8]
theorem aZm (S:Nat) (w:World) (hS:S<4294967296) :
  Calls prog 113 #[.int .u32 (S:Int)] w fun e w'=>e = .returned (.int .i64 ((aAe S).length:Int))/\Bel w w':=by
 obtain ⟨b0,hb0⟩:∃ b:Nat,b=S % 256:=⟨_,rfl⟩;obtain ⟨b1,hb1⟩:∃ b:Nat,b=S / 256 % 256:=⟨_,rfl⟩;obtain ⟨b2,hb2⟩:∃ b:Nat,b=S / 65536 % 256:=⟨_,rfl⟩;obtain ⟨b3,hb3⟩:∃ b:Nat,b=S / 16777216:=⟨_,rfl⟩;have q0:bits .and .u32 (S:Int) 255=(b0:Int):=by rw [aPi hS,hb0]
 have q1:bits .and .u32 ((S:Int) / 256) 255=(b1:Int):=by
  rw [show (S:Int) / 256=((S / 256:Nat):Int) by omega,aPi (by omega),hb1]
 have q2:bits .and .u32 ((S:Int) / 65536) 255=(b2:Int):=by
  rw [show (S:Int) / 65536=((S / 65536:Nat):Int) by omega,aPi (by omega),hb2]
 have q3:(S:Int) / 16777216=(b3:Int):=by omega
 have l0:(b0:Int)<=255:=by omega
 have l1:(b1:Int)<=255:=by omega
 have l2:(b2:Int)<=255:=by omega
 have l3:(b3:Int)<=255:=by omega
 have i0:b0<=255:=by omega
 have i1:b1<=255:=by omega
 have i2:b2<=255:=by omega
 have i3:b3<=255:=by omega
 have HB:=aA0 (And.intro hb0 (And.intro hb1 (And.intro hb2 hb3)));clear hb0 hb1 hb2 hb3;go_enter func113,ntmps113;simp only [List.append_eq,List.cons_append,List.nil_append,Lib.fold_pop8tab]
 go_wp2
 go_region
 go_wp2;go_ret;refine ⟨aA5 ?_,(Bel.refl w).drew⟩
 obtain ⟨e0,e1,e2,e3⟩:=HB.out;rw [aQ4 (by omega),aQ4 (by omega),aQ4 (by omega),aQ4 (by omega),aSv hS,e0,e1,e2,e3]
 have h0:=aPj (S % 256);have h1:=aPj (S / 256 % 256);have h2:=aPj (S / 65536 % 256);have h3:=aPj (S / 16777216);omega
attribute [local go_sem] Oper.semAt_some
theorem aH6 (S:Nat) (w:World) :
  Calls prog 96 #[.int .u32 (S:Int)] w fun e w'=>e = .returned (.func (.func 119) #[] #[.pointer (some ⟨w.heap.size,0,none⟩)])/\w'=w.alloc (.cells #[.int .u32 (S:Int)] 34):=by
 go_enter func96,ntmps96;go_wp2;go_ret;exact ⟨rfl,rfl⟩
theorem aDg.same {A B:World} (h:aDg A) (hs:A.heap.size<=B.heap.size) (hb:B.heap[0]?=A.heap[0]?):aDg B :=
 ⟨Nat.lt_of_lt_of_le h.1 hs,fun i hi=>(World.cell?_of_block hb).trans (h.2 i hi)⟩
def bB9 (w:World) (B:Nat):Nat:=match w.cell? ⟨B,0,none⟩ with | some (.int _ x)=>x.toNat | _=>0
theorem aN9 (n:Nat) (B S:Nat) (w:World) (hn:1<=n) (hS:S<4294967296) (hB:Boxed w B 34 (.int .u32 (S:Int))) (hT:aDg w) :
  bB8 Fence.wide n prog 119 #[.pointer (some ⟨B,0,none⟩)] (fun v:Nat=>#[.int .i64 (v:Int)]) (fun k=>k=B) (fun k=>k=0) (aAe S) w:=by
 intro l J Jx W hW hJ hJx hY h0
 refine callsIn_of_wp func119 rfl trivial ?_ rfl
 simp only [ntmps119,List.size_toArray,List.length_cons,List.length_nil,Nat.reduceAdd,Nat.reduceSub,Array.replicate_succ,Array.replicate_zero,List.push_toArray,List.append_toArray,List.nil_append,List.cons_append]
 gi_wp2
 gi_loopw [] (fun wr=>∃ (pre:List Nat) (cur:Nat),Hid (Boxed wr B 34 (.int .u32 (cur:Int)))/\Hid (aDg wr)/\Hid (pre++aAe cur=aAe S)/\Hid (cur<4294967296)/\Hid (J pre wr)) (fun wr=>bB9 wr B)
 case atStart=>exact ⟨[],S,by show Boxed _ _ _ _;exact (hW.block B hB.lt).trans hB,hT.keep hW,by show []++_=_;rfl,hS,h0⟩
 case round =>
  clear h0 hS hB hT;obtain ⟨pre,cur,HX,HT,HP,HC,HJ⟩:=hrel;have hc:=HX.out.cell;have hf:=HX.out.frozen;have hl:=HX.out.lt
  by_cases hz:cur=0
  .have hb:((cur:Int) != 0)=false:=by simp;exact hz
   have HZ:=aA0 hz;clear hz
   gi_wp2
   go_end0
   have h:=HP.out;rw [HZ.out,aGz,List.append_nil] at h;exact ⟨⟨_,rfl⟩,.inl (by rw [<- h];exact HJ.out)⟩
  .have hb:((cur:Int) != 0)=true:=by simp;exact hz
   obtain ⟨k,m,e1,hk,_,e2,e3⟩:=aEw HC.out hz
   have q:bits .and .u32 (cur:Int) (((cur:Int)-1) % 4294967296)=((2 ^ k*(2*m):Nat):Int):=by
    rw [show ((cur:Int)-1) % 4294967296=((cur-1:Nat):Int) by have:=HC.out;omega,aCs HC.out (by have:=HC.out;omega),e2]
   have hlt:2 ^ k*(2*m)<cur:=by
    have:2 ^ k*(2*m)+2 ^ k=cur:=by rw [e1,Nat.mul_add,Nat.mul_one]
    have:=Nat.two_pow_pos k;omega
   have HQ:Hid (pre++[k]++aAe (2 ^ k*(2*m))=aAe S):=by
    have:=HP.out;rw [e3] at this;show _=_
    rw [List.append_assoc];exact this
   have hpre:pre++[k] <+: aAe S:=⟨_,HQ.out⟩;obtain ⟨fn,tmps,assign,body,hy,hR⟩:=hY pre k wr hpre HJ.out;generalize 2 ^ k*(2*m)=nx at q hlt HQ;have HE1:=aA0 e1;have HLT:=aA0 hlt;have HZ:=aA0 hz;clear e1 e2 e3 hz hlt hpre hk
   gi_wp2_with (refine ⟨trivial,?_⟩;gi_at_call 120;refine (callsIn_wide.2 (bBh cur k m _ HT.out HC.out HE1.out)).mono ?_;rintro e w' ⟨rfl,rfl⟩)
   refine hR.mono ?_
   rintro e w' (⟨rfl,hJ',hs⟩ | ⟨rfl,hJx'⟩)
   .have hbx:Boxed w' B 34 (.int .u32 (cur:Int)):=(hs.2 B HX.out.lt (.inl rfl)).trans HX.out
    have HT':Hid (aDg w'):=HT.out.same hs.1 (hs.2 _ HT.out.1 (.inr rfl));have hc':=hbx.cell;have hf':=hbx.frozen;have hl':=hbx.lt;have HX':=aA0 hbx;have HJ':=aA0 hJ';clear hbx hJ' hs hc hf hl
    gi_wp2
    go_roundw
    case rel =>
     refine ⟨pre++[k],nx,HX'.out.set _,HT'.out.same (by simp) (Below.heap_setCell _ _ _ _ ?_),HQ.out,by have:=HC.out;have:=HLT.out;show _<_;omega,hJ _ _ _ HJ'.out (Agr.setCell _ _ _ rfl)⟩
     have h1:=HX'.out;have h2:=HT'.out.2 0 (by decide)
     intro e
     simp only at e
     subst e;rw [h1.cell] at h2;cases h2
    case measure =>
     have e1:bB9 wr B=cur:=by unfold bB9;rw [HX.out.cell];simp
     have e2:∀ W:World,Boxed W B 34 (.int .u32 (nx:Int))->bB9 W B=nx:=fun W h=>by unfold bB9;rw [h.cell];simp
     rw [e1,e2 _ (HX'.out.set _)];exact HLT.out
   .gi_wp2
    refine bodyPost_ret (results_none rfl _ _ _) rfl ?_
    exact ⟨⟨_,rfl⟩,.inr ⟨pre++[k],⟨_,HQ.out⟩,hJx'⟩⟩
end Go.Proofs.YtdcjnhoabbdanaaGreatDoor

namespace Go.Proofs.YtdcjnhoabbdanaaGreatDoor
open Go.RowKit
open Go.ChangeShapes Go.WideShapes Go.ChangeAt Go.RowKit Go.Deep
theorem Tryz.cells_ints:prog.cellsOf 26=1:=by kernel_rfl
theorem Tryz.cells_terms:prog.cellsOf 90=1:=by kernel_rfl
theorem Tryz.cells_str:prog.cellsOf 9=1:=by kernel_rfl
theorem Tryz.cells_link:prog.cellsOf 102=2:=by kernel_rfl
theorem Tryz.cells_links:prog.cellsOf 96=1:=by kernel_rfl
theorem Tryz.cells_ports:prog.cellsOf 27=1:=by kernel_rfl
theorem Tryz.cells_var:prog.cellsOf 100=6:=by kernel_rfl
theorem Tryz.cells_vars:prog.cellsOf 22=1:=by kernel_rfl
theorem Tryz.cells_set:prog.cellsOf 95=2:=by kernel_rfl
theorem Tryz.cells_sets:prog.cellsOf 91=1:=by kernel_rfl
theorem Tryz.cells_rule:prog.cellsOf 93=3:=by kernel_rfl
theorem Tryz.cells_rules:prog.cellsOf 23=1:=by kernel_rfl
theorem Tryz.cells_prg:prog.cellsOf 25=3:=by kernel_rfl
theorem Tryz.cells_graph:prog.cellsOf 29=2:=by kernel_rfl
section
variable {H:Type} {enc:TypeId × Value->H} {w:World} {base:Nat} {spare:Nat->Bool} {held:Bool}
def aO2 (enc:TypeId × Value->H) (w:World) (base:Nat) (spare:Nat->Bool) (held:Bool) {α:Type} (e:TypeId) (size:Nat) (E:World->Nat->Nat->α->Prop):Prop :=
 ∀ n cs y b o,(∀ j,j<size->w.cell? ⟨b,o+j,none⟩=cs[j]?)->cs.length=size->DataW.trod enc prog w base spare held n e cs=some y->∃ x,E w b o x/\True
theorem aFo {α:Type} [Inhabited α] {t e:TypeId} {size:Nat} {E:World->Nat->Nat->α->Prop} (ht:prog.underlying t=some (.slice e)) (hC:prog.cellsOf e=size) (hsz:0<size)
  (hE:aO2 enc w base spare held e size E):aO2 enc w base spare held t 1 (aIr size E):=by
 intro n cs y b o hat hl h
 obtain ⟨A,n',c,xs,hcs,hr,_,h1,h2⟩:=aJj (E:=E) (Good:=fun _=>True) ht hC hsz hE h;subst hcs;have hn:=hr.1;subst hn;exact ⟨xs,⟨A,c,by simpa using hat 0 (by omega),hr,h1,h2⟩,trivial⟩
theorem aLg:aO2 enc w base spare held 3 1 aHn:=fun n cs y b o h1 h2 h3=>by
 obtain ⟨x,hx,_⟩:=aTf underlying3 n cs y b o h1 h2 h3;exact ⟨x,hx,trivial⟩
theorem aKa:aO2 enc w base spare held 98 2 aIv:=fun n cs y b o h1 h2 h3=>by
 obtain ⟨x,hx,_⟩:=aRk n cs y b o h1 h2 h3;exact ⟨x,hx,trivial⟩
theorem aL1 {α:Type} {f:TypeId} {k:Nat} {E:World->Nat->Nat->α->Prop} (hE:aO2 enc w base spare held f 1 E) {m i n:Nat} {cs:List Value} {u:Value} {xs:List (DataW H × List MemPlace)} {b o:Nat}
  (h:DataW.trod enc prog w base spare held m f cs=xs[i]?) (hl:xs.length=n) (hi:i<n) (hcs:cs=[u]) (hat:w.cell? ⟨b,o+k,none⟩=some u):∃ x,E w b (o+k) x:=by
 obtain ⟨y,hy⟩:=aDe h hl hi hcs
 obtain ⟨x,hx,_⟩:=hE m [u] y b (o+k) (fun j hj=>by
  obtain rfl:j=0:=by omega
  exact hat) rfl hy
 exact ⟨x,hx⟩
theorem aGh {f:TypeId} (hf:prog.underlying f=some .string) {m i n:Nat} {cs:List Value} {u:Value} {xs:List (DataW H × List MemPlace)}
  (h:DataW.trod enc prog w base spare held m f cs=xs[i]?) (hl:xs.length=n) (hi:i<n) (hcs:cs=[u]):∃ s,u = .string s:=by
 obtain ⟨y,hy⟩:=aDe h hl hi hcs;obtain ⟨s,hc,_,_⟩:=DataW.trod_string hf hy;exact ⟨s,by simpa using hc⟩
theorem aBz {m i n:Nat} {cs:List Value} {u:Value} {xs:List (DataW H × List MemPlace)}
  (h:DataW.trod enc prog w base spare held m 3 cs=xs[i]?) (hl:xs.length=n) (hi:i<n) (hcs:cs=[u]):∃ x,u = .int .i64 x:=by
 obtain ⟨y,hy⟩:=aDe h hl hi hcs;obtain ⟨x,hx,_,_⟩:=DataW.trod_int underlying3 hy;exact ⟨x,by simpa using hx⟩
theorem aRh:aO2 enc w base spare held 102 2 aMa:=by
 intro n cs y b o hat hl h
 obtain ⟨xs,m,_,_,_,hxl,hf⟩:=DataW.trod_struct underlying102 h
 match cs,hl with
 | [u,v],_ =>
  obtain ⟨x0,rfl⟩:=aBz (u:=u) (hf 0 _ rfl) hxl (by decide) (by simp [Tryz.cells_int])
  obtain ⟨x1,rfl⟩:=aBz (u:=v) (hf 1 _ rfl) hxl (by decide) (by simp [Tryz.cells_int])
  exact ⟨⟨x0,x1⟩,⟨by simpa using hat 0 (by omega),by simpa using hat 1 (by omega)⟩,trivial⟩
theorem aTh:aO2 enc w base spare held 100 6 aUm:=by
 intro n cs y b o hat hl h
 obtain ⟨xs,m,_,_,_,hxl,hf⟩:=DataW.trod_struct underlying100 h
 match cs,hl with
 | [u0,u1,u2,u3,u4,u5],_ =>
  obtain ⟨s,rfl⟩:=aGh underlying9 (u:=u0) (hf 0 _ rfl) hxl (by decide) (by simp [Tryz.cells_str])
  obtain ⟨x1,rfl⟩:=aBz (u:=u1) (hf 1 _ rfl) hxl (by decide) (by simp [Tryz.cells_int])
  obtain ⟨x2,rfl⟩:=aBz (u:=u2) (hf 2 _ rfl) hxl (by decide) (by simp [Tryz.cells_int])
  obtain ⟨x3,rfl⟩:=aBz (u:=u3) (hf 3 _ rfl) hxl (by decide) (by simp [Tryz.cells_int])
  obtain ⟨x4,rfl⟩:=aBz (u:=u4) (hf 4 _ rfl) hxl (by decide) (by simp [Tryz.cells_int])
  obtain ⟨x5,rfl⟩:=aBz (u:=u5) (hf 5 _ rfl) hxl (by decide) (by simp [Tryz.cells_int])
  exact ⟨⟨s,x1,x2,x3,x4,x5⟩,⟨by simpa using hat 0 (by omega),by simpa using hat 1 (by omega),by simpa using hat 2 (by omega),by simpa using hat 3 (by omega),by simpa using hat 4 (by omega),by simpa using hat 5 (by omega)⟩,trivial⟩
theorem aTg:aO2 enc w base spare held 95 2 aSh:=by
 intro n cs y b o hat hl h
 obtain ⟨xs,m,_,_,_,hxl,hf⟩:=DataW.trod_struct underlying95 h
 match cs,hl with
 | [u0,u1],_ =>
  obtain ⟨x0,rfl⟩:=aBz (u:=u0) (hf 0 _ rfl) hxl (by decide) (by simp [Tryz.cells_int])
  obtain ⟨x1,h1⟩:=aL1 (k:=1) (u:=u1) (b:=b) (o:=o) (aFo underlying90 Tryz.cells_term (by decide) aKa) (hf 1 _ rfl) hxl (by decide) (by simp [Tryz.cells_terms]) (by simpa using hat 1 (by omega))
  exact ⟨⟨x0,x1⟩,⟨by simpa using hat 0 (by omega),h1⟩,trivial⟩
theorem aRj:aO2 enc w base spare held 93 3 aQi:=by
 intro n cs y b o hat hl h
 obtain ⟨xs,m,_,_,_,hxl,hf⟩:=DataW.trod_struct underlying93 h
 match cs,hl with
 | [u0,u1,u2],_ =>
  obtain ⟨s,rfl⟩:=aGh underlying9 (u:=u0) (hf 0 _ rfl) hxl (by decide) (by simp [Tryz.cells_str])
  obtain ⟨x1,h1⟩:=aL1 (k:=1) (u:=u1) (b:=b) (o:=o) (aFo underlying90 Tryz.cells_term (by decide) aKa) (hf 1 _ rfl) hxl (by decide) (by simp [Tryz.cells_terms]) (by simpa using hat 1 (by omega))
  obtain ⟨x2,h2⟩:=aL1 (k:=2) (u:=u2) (b:=b) (o:=o) (aFo underlying91 Tryz.cells_set (by decide) aTg) (hf 2 _ rfl) hxl (by decide) (by simp [Tryz.cells_sets]) (by simpa using hat 2 (by omega))
  exact ⟨⟨s,x1,x2⟩,⟨by simpa using hat 0 (by omega),h1,h2⟩,trivial⟩
theorem aE2 {α:Type} [Inhabited α] {t e:TypeId} {size:Nat} {E:World->Nat->Nat->α->Prop} (ht:prog.underlying t=some (.slice e)) (hC:prog.cellsOf e=size) (hsz:0<size)
  (hE:aO2 enc w base spare held e size E) {fuel:Nat} {cs:List Value} {y:DataW H × List MemPlace} (h:DataW.trod enc prog w base spare held fuel t cs=some y) :
  ∃ (A:Option Addr) (c:Nat) (xs:List α),cs=[.slice A xs.length c]/\aAf size E w A xs.length xs/\xs.length<=c/\c<=maxLen:=by
 obtain ⟨A,n',c,xs,hcs,hr,_,h1,h2⟩:=aJj (E:=E) (Good:=fun _=>True) ht hC hsz hE h;have hn:=hr.1;subst hn;exact ⟨A,c,xs,hcs,hr,h1,h2⟩
theorem aVj {r:Reach} {b0:Nat} {v:Value} {d:DataW H} {p:List MemPlace} (h:DataW.Trod enc prog w base spare held 30 v d p) (hv:Value.okWide prog w r b0 30 v):∃ c:aA7,aAy w v c:=by
 obtain ⟨a,l,c',rfl⟩:=okWide_slice underlying30 hv;obtain ⟨fuel,h⟩:=h;obtain ⟨A,c,xs,hcs,hr,h1,h2⟩:=aE2 underlying30 Tryz.cells_ints (by decide) (aFo underlying26 Tryz.cells_int (by decide) aLg) h
 exact ⟨xs,A,c,by simpa [Value.cells] using hcs,hr,h1,h2⟩
theorem aTe {r:Reach} {b0:Nat} {v:Value} {d:DataW H} {p:List MemPlace} (h:DataW.Trod enc prog w base spare held 29 v d p) (hv:Value.okWide prog w r b0 29 v):∃ g:Graph,aAn w v g:=by
 obtain ⟨cs,rfl,hsz⟩:=okWide_struct underlying29 hv;obtain ⟨l⟩:=cs;rw [Tryz.cells_graph] at hsz
 match l,hsz with
 | [u,v],_ =>
  obtain ⟨fuel,hf⟩:=h;obtain ⟨xs,m,_,_,_,hxl,hf⟩:=DataW.trod_struct underlying29 hf;obtain ⟨y0,h0⟩:=aDe (us:=[u]) (hf 0 _ rfl) hxl (by decide) (by simp [Tryz.cells_ints,Value.cells])
  obtain ⟨y1,h1⟩:=aDe (us:=[v]) (hf 1 _ rfl) hxl (by decide) (by simp [Tryz.cells_ints,Tryz.cells_ports,Value.cells])
  obtain ⟨A,c,ids,e0,a1,a2,a3⟩:=aE2 underlying26 Tryz.cells_int (by decide) aLg h0
  obtain ⟨A2,c2,ports,e1,b1,b2,b3⟩:=aE2 underlying27 Tryz.cells_links (by decide) (aFo underlying96 Tryz.cells_link (by decide) aRh) h1
  obtain rfl:u=_:=by simpa using e0
  obtain rfl:v=_:=by simpa using e1
  exact ⟨⟨ids,ports⟩,A,c,A2,c2,rfl,a1,a2,a3,b1,b2,b3⟩
theorem aXn {r:Reach} {b0:Nat} {v:Value} {d:DataW H} {p:List MemPlace} (h:DataW.Trod enc prog w base spare held 25 v d p) (hv:Value.okWide prog w r b0 25 v):∃ q:Prg,aEm w v q:=by
 obtain ⟨cs,rfl,hsz⟩:=okWide_struct underlying25 hv;obtain ⟨l⟩:=cs;rw [Tryz.cells_prg] at hsz
 match l,hsz with
 | [s,u,v],_ =>
  obtain ⟨fuel,hf⟩:=h;obtain ⟨xs,m,_,_,_,hxl,hf⟩:=DataW.trod_struct underlying25 hf;obtain ⟨nm,rfl⟩:=aGh underlying9 (u:=s) (hf 0 _ rfl) hxl (by decide) (by simp [Tryz.cells_str,Value.cells])
  obtain ⟨y0,h0⟩:=aDe (us:=[u]) (hf 1 _ rfl) hxl (by decide) (by simp [Tryz.cells_str,Tryz.cells_vars,Value.cells])
  obtain ⟨y1,h1⟩:=aDe (us:=[v]) (hf 2 _ rfl) hxl (by decide) (by simp [Tryz.cells_str,Tryz.cells_vars,Tryz.cells_rules,Value.cells])
  obtain ⟨A,c,vars,e0,a1,a2,a3⟩:=aE2 underlying22 Tryz.cells_var (by decide) aTh h0
  obtain ⟨A2,c2,rules,e1,b1,b2,b3⟩:=aE2 underlying23 Tryz.cells_rule (by decide) aRj h1
  obtain rfl:u=_:=by simpa using e0
  obtain rfl:v=_:=by simpa using e1
  exact ⟨⟨nm,vars,rules⟩,A,c,A2,c2,rfl,a1,a2,a3,b1,b2,b3⟩
end
end Go.Proofs.YtdcjnhoabbdanaaGreatDoor

