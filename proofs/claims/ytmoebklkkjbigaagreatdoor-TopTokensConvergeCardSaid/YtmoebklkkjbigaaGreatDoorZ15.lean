/- Merged. -/
import Derived.Test.YtmoebklkkjbigaaGreatDoorZ11
import Derived.RangeFuncNested
import Derived.RangeFuncBound
import Derived.RangeFuncCalls
import Derived.RangeFuncLeaves
import Derived.Shelf.Abstract
import Derived.Shelf.RegionOpen
import Derived.WalkKit
import Derived.OwnWalkIn
import Derived.TacticsInMore
import Derived.LoopNIn
import Derived.LoopIn
import Derived.RangeFuncBox
import Derived.Test.YtmoebklkkjbigaaGreatDoorZ12
import Derived.Lib.Strings
import Derived.Lib.Slices
import Derived.Lib.SlicesS
import Derived.Lib.Walk
import Derived.Lib.Bytealg
set_option linter.unusedSimpArgs false
set_option linter.unnecessarySimpa false
set_option linter.unusedVariables false
set_option maxRecDepth 100000
set_option maxHeartbeats 2000000
open Go.Proofs.Tryz

namespace Go.Proofs.YtmoebklkkjbigaaGreatDoor
open Go.RowKit
theorem aCr.cells {w:World} {A:Option Addr} {l:List Int} (h:aCr w A l.length l):aW7 w 1 A l.length (l.map (Value.int .i64)):=by
 refine ⟨by simp,fun j u hu=>?_⟩
 rw [List.getElem?_map] at hu;cases hx:l[j]? with
 | none=>rw [hx] at hu;cases hu
 | some x =>
  rw [hx] at hu;obtain rfl:Value.int .i64 x=u:=by simpa using hu
  obtain ⟨b,o,e,_,hc⟩:=h.2 j x hx;exact ⟨b,o,e,by simpa [aJ4] using hc⟩
theorem aMj (l:List Int):∀ u∈l.map (Value.int .i64),u.oneCell'=true:=by
 intro u hu
 obtain ⟨x,_,rfl⟩:=List.mem_map.1 hu;rfl
def Off (g:Nat) (A:Option Addr):Prop:=∀ b o,A=some ⟨b,o,none⟩->b≠g
theorem aCr.other {w:World} {A:Option Addr} {l:List Int} {g v:Nat} {x:Value} (h:aCr w A l.length l) (ho:Off g A):aCr (w.setCell ⟨g,v,none⟩ x) A l.length l:=by
 refine ⟨rfl,fun i y hy=>?_⟩
 obtain ⟨b,o,rfl,hb,hc⟩:=h.2 i y hy
 exact ⟨b,o,rfl,by simpa using hb,by
  unfold aJ4 at *;rw [((Fr.refl g w).set v x).cell hb (ho b o rfl)];exact hc⟩
structure OwnC (w:World) (base g cap:Nat) (d:aA3) (hs:List Value):Prop where
 own:w.ownsRow base 22 1 (.slice (some ⟨g,0,none⟩) d.length cap) d.length hs
 rows:∀ u (hu:u<d.length),∃ R c',hs[u]?=some (.slice R d[u].length c')/\aCr w R d[u].length d[u]/\d[u].length<=c'/\c'<=maxLen/\Off g R
theorem OwnC.keep {w w':World} {base g cap:Nat} {d:aA3} {hs:List Value} (h:OwnC w base g cap d hs) (k:Bel w w'):OwnC w' base g cap d hs :=
 ⟨k.owns h.own,fun u hu=>by
  obtain ⟨R,c',h1,h2,h3⟩:=h.rows u hu;exact ⟨R,c',h1,h2.keep k,h3⟩⟩
theorem OwnC.conf {w:World} {base g cap:Nat} {d:aA3} {hs:List Value} (h:OwnC w base g cap d hs):aD2 w (.slice (some ⟨g,0,none⟩) d.length cap) d:=by
 obtain ⟨h1,h2⟩:=aCd h.own;refine ⟨_,_,rfl,⟨rfl,fun u x hx=>?_⟩,h1,h2⟩
 have hu:u<d.length:=(List.getElem?_eq_some_iff.1 hx).1;have hxe:d[u]=x:=(List.getElem?_eq_some_iff.1 hx).2;obtain ⟨R,c',k1,k2,k3,k4,_⟩:=h.rows u hu;obtain ⟨g',e1,_,hlt,hc,_⟩:=aAj h.own k1;obtain rfl:g=g':=by simpa using e1
 subst hxe;exact ⟨g,0,rfl,hlt,R,c',by rw [Nat.zero_add,Nat.mul_one];exact hc,k2,k3,k4⟩
theorem OwnC.set {w:World} {base g cap:Nat} {d:aA3} {hs:List Value} (h:OwnC w base g cap d hs) {v:Nat} {l:List Int} {A:Option Addr} {c':Nat} (hv:v<d.length) (hl:aCr w A l.length l) (h1:l.length<=c') (h2:c'<=maxLen) (ho:Off g A) :
  OwnC (w.setCell ⟨g,v,none⟩ (.slice A l.length c')) base g cap (d.set v l) (hs.set v (.slice A l.length c')):=by
 have hlen:hs.length=d.length:=by have:=h.own.1;omega
 refine ⟨by rw [List.length_set];exact (h.own.stored v _).1,fun u hu=>?_⟩
 rw [List.length_set] at hu
 by_cases he:v=u
 .subst he
  rw [List.getElem_set_self];exact ⟨A,c',List.getElem?_set_self (by omega),hl.other ho,h1,h2,ho⟩
 .rw [List.getElem_set_ne he]
  obtain ⟨R,c2,k1,k2,k3,k4,k5⟩:=h.rows u hu;exact ⟨R,c2,by rw [List.getElem?_set_ne he];exact k1,k2.other k5,k3,k4,k5⟩
def aZg (w:World) (B:Nat) (A:Option Addr) (c:Nat) (l:List Int):Prop:=aCr w A l.length l/\l.length<=c/\c<=maxLen/\∀ b o,A=some ⟨b,o,none⟩->B<=b/\b<w.heap.size
theorem aZg.off {w:World} {B:Nat} {A:Option Addr} {c:Nat} {l:List Int} (h:aZg w B A c l) {g:Nat} (hg:g<B):Off g A:=fun b o e=>by have:=h.2.2.2 b o e;omega
theorem aZg.keep {w w':World} {B:Nat} {A:Option Addr} {c:Nat} {l:List Int} (h:aZg w B A c l) (k:Bel w w'):aZg w' B A c l:=⟨h.1.keep k,h.2.1,h.2.2.1,fun b o e=>⟨(h.2.2.2 b o e).1,Nat.lt_of_lt_of_le (h.2.2.2 b o e).2 k.size⟩⟩
theorem aZg.lower {w:World} {B B':Nat} {A:Option Addr} {c:Nat} {l:List Int} (h:aZg w B A c l) (hB:B'<=B):aZg w B' A c l:=⟨h.1,h.2.1,h.2.2.1,fun b o e=>⟨Nat.le_trans hB (h.2.2.2 b o e).1,(h.2.2.2 b o e).2⟩⟩
theorem aZg.gr {w w':World} {B:Nat} {A:Option Addr} {c:Nat} {l:List Int} {row:Option Nat} (h:aZg w B A c l) (hg:Gr row w w') (ho:∀ b o,A=some ⟨b,o,none⟩->some b≠row):aZg w' B A c l :=
 ⟨⟨rfl,fun i x hx=>by
  obtain ⟨b,o,e,hb,hc⟩:=h.1.2 i x hx;exact ⟨b,o,e,Nat.lt_of_lt_of_le hb hg.1,(hg.cell hb (ho b o e)).trans hc⟩⟩,h.2.1,h.2.2.1,fun b o e=>⟨(h.2.2.2 b o e).1,Nat.lt_of_lt_of_le (h.2.2.2 b o e).2 hg.1⟩⟩
theorem aKj {w:World} {base:Nat} {e:TypeId} {A:Option Addr} {n c:Nat} {l:List Int} (h:w.ownsRow base e 1 (.slice A n c) n (l.map (Value.int .i64))):n=l.length/\aZg w base A c l:=by
 have hn:n=l.length:=by have:=h.1;simp at this;omega
 subst hn;obtain ⟨h1,h2⟩:=aCd h;refine ⟨rfl,aVa h,h1,h2,fun b o e=>?_⟩
 subst e
 rcases h.2 with ⟨hv,_⟩ | ⟨g',cap,cur,hv,hb,hg,_⟩
 .cases hv
 .injection hv with hA;injection hA with hA;injection hA with hA;subst hA;exact ⟨hb,lt_of_block hg⟩
theorem bN3 {w:World} {base:Nat} {e:TypeId} {size n cap g o:Nat} {hs:List Value} (h:w.ownsRow base e size (.slice (some ⟨g,o,none⟩) n cap) n hs):g<w.heap.size:=by
 rcases h.2 with ⟨hv,_⟩ | ⟨g',_,_,hv,_,hg,_⟩
 .cases hv
 .injection hv with hA;injection hA with hA;injection hA with hA;subst hA;exact lt_of_block hg
def bNc (l:List Int) (w:World) (e:Ending) (w':World):Prop:=∃ A c,e = .returned (.slice A l.length c)/\aZg w' w.heap.size A c l/\Bel w w'
def aLx (N:Nat) (w:World) (hs:List Value):Prop:=∀ v∈hs,∀ b o n c,v = .slice (some ⟨b,o,none⟩) n c->N<=b/\b<w.heap.size
theorem aLx.size {N:Nat} {w w':World} {hs:List Value} (h:aLx N w hs) (k:w.heap.size<=w'.heap.size):aLx N w' hs:=fun v hv b o n c e=>⟨(h v hv b o n c e).1,Nat.lt_of_lt_of_le (h v hv b o n c e).2 k⟩
theorem aLx.zero (N n:Nat) (w:World):aLx N w (List.replicate n (.slice none 0 0)):=fun v hv b o n' c e=>by
 rw [List.eq_of_mem_replicate hv] at e;cases e
theorem aLx.set {N B:Nat} {w:World} {hs:List Value} (h:aLx N w hs) {A:Option Addr} {n c:Nat} {l:List Int} (hN:aZg w B A c l) (hB:N<=B) (i:Nat):aLx N w (hs.set i (.slice A n c)):=fun v hv b o n' c' e=>by
 rcases List.mem_or_eq_of_mem_set hv with hv | hv
 .exact h v hv b o n' c' e
 .subst hv
  injection e with e
  obtain ⟨h1,h2⟩:=hN.2.2.2 b o e;exact ⟨Nat.le_trans hB h1,h2⟩
theorem OwnC.newC {w W:World} {N g cap:Nat} {d:aA3} {hs:List Value} (h:OwnC w N g cap d hs) (hn:aLx N w hs) (k:aC3 N w W):aD2 W (.slice (some ⟨g,0,none⟩) d.length cap) d:=by
 refine OwnC.conf (base:=N) (hs:=hs) ⟨bD4 h.own k (aAa h.own).1,fun u hu=>?_⟩
 obtain ⟨R,c',h1,h2,h3⟩:=h.rows u hu;refine ⟨R,c',h1,⟨h2.1,fun i x hx=>?_⟩,h3⟩
 obtain ⟨b,o,e,hb,hc⟩:=h2.2 i x hx;subst e;obtain ⟨n1,n2⟩:=hn _ (List.mem_of_getElem? h1) b o _ _ rfl;exact ⟨b,o,rfl,Nat.lt_of_lt_of_le hb k.1,(k.cell n1 n2).trans hc⟩
def bGp (d:aA3) (w:World) (e:Ending) (w':World):Prop:=∃ g cap hs,e = .returned (.slice (some ⟨g,0,none⟩) d.length cap)/\OwnC w' w.heap.size g cap d hs/\aLx w.heap.size w' hs/\Bel w w'
theorem OwnC.zero {w:World} {base g cap n:Nat} {hs:List Value} (h:w.ownsRow base 22 1 (.slice (some ⟨g,0,none⟩) n cap) n hs) (hs0:hs=List.replicate n (.slice none 0 0)):OwnC w base g cap (List.replicate n []) hs:=by
 refine ⟨by rw [List.length_replicate];exact h,fun u hu=>?_⟩
 rw [List.length_replicate] at hu;refine ⟨none,0,?_,?_,?_,?_,fun b o e=>by cases e⟩
 .subst hs0;rw [List.getElem_replicate];rw [List.getElem?_replicate,if_pos hu];rfl
 .rw [List.getElem_replicate];exact aAc.nil
 .rw [List.getElem_replicate];exact Nat.le_refl _
 .unfold maxLen;omega
def aQn (c:aA3) (k:Nat):aA3:=c.take k++List.replicate (c.length-k) []
theorem aJe (c:aA3) (k:Nat):(aQn c k).length=c.length:=by simp [aQn];omega
theorem bEk (c:aA3):aQn c 0=List.replicate c.length []:=by simp [aQn]
theorem bEi (c:aA3):aQn c c.length=c:=by simp [aQn]
theorem bCg (c:aA3) (k i:Nat):(aQn c k)[i]?=if i<c.length then some (if i<k then c.getD i [] else []) else none:=by
 unfold aQn;rw [List.getElem?_append]
 by_cases hi:i<c.length
 .rw [if_pos hi]
  by_cases hk:i<k
  .rw [if_pos hk,if_pos (by rw [List.length_take];omega),List.getElem?_take_of_lt hk,List.getElem?_eq_getElem hi,aA8 hi]
  .rw [if_neg hk,if_neg (by rw [List.length_take];omega),List.getElem?_replicate,if_pos (by rw [List.length_take];omega)]
 .rw [if_neg hi]
  by_cases hk:i<(c.take k).length
  .rw [List.length_take] at hk;omega
  .rw [if_neg hk,List.getElem?_replicate,if_neg (by rw [List.length_take] at *;omega)]
theorem bEj (c:aA3) (k:Nat) (h:k<c.length):(aQn c k).set k c[k]=aQn c (k+1):=by
 apply List.ext_getElem?
 intro i
 rw [List.getElem?_set,bCg,bCg,aJe]
 by_cases he:k=i
 .subst he
  rw [if_pos rfl,if_pos h,if_pos h,if_pos (by omega),aA8 h]
 .rw [if_neg he]
  by_cases hi:i<c.length
  .rw [if_pos hi,if_pos hi]
   by_cases hk:i<k
   .rw [if_pos hk,if_pos (by omega)]
   .rw [if_neg hk,if_neg (by omega)]
  .rw [if_neg hi,if_neg hi]
theorem bFw:(prog.info? 22).map (fun i=>(i.zero,i.size,i.bytes))=some (some (.slice none 0 0),1,24):=by kernel_rfl
theorem aXt:(prog.info? 3).map (fun i=>(i.zero,i.size,i.bytes))=some (some (.int .i64 0),1,8):=by kernel_rfl
theorem aP0 (v:Value) (c:aA3) (w:World) (h:aD2 w v c) (hL:aHq c=true) :
  Calls prog 132 #[v] w (bGp c w):=by
 obtain ⟨A,k,rfl,hR,_,_⟩:=h;have HR:=aA0 (fun w' (kk:Bel w w')=>hR.keep kk);obtain ⟨l1,l2⟩:=aJi hL;have HL2:=aA0 l2;clear hR l2 hL;obtain ⟨i0,hi0,hz0,hz1,hz2⟩:=info_parts bFw;obtain ⟨j0,hj0,hy0,hy1,hy2⟩:=info_parts aXt;go_enter func132,ntmps132
 go_wp2_with (at_make;refine aB7 _ rfl 66 (.tmp 7) (.tmp 7) rfl w.heap.size 22 i0 (.slice none 0 0) 1 underlying66 hi0 hz0 hz1 .i64 .i64 c.length rfl rfl (by rw [hz2];omega) (by unfold maxLen;omega) (by simp) ?_;intro gb w1 hown hb;have HW:=hb;rw [aB3 _ rfl] at hown;have HO:=aA0 (OwnC.zero hown rfl);clear hown hb)
 go_loopg [4,5,11] c.length (fun m _x _y z wr=>∃ (v:Nat) (hs:List Value),v<=c.length/\m=c.length-v/\z = .int .i64 v/\Hid (OwnC wr w.heap.size gb c.length (aQn c v) hs)/\Hid (aLx w.heap.size wr hs)/\Bel w wr)
 case atStart=>exact ⟨0,_,by omega,rfl,rfl,by show OwnC _ _ _ _ _ _;rw [bEk];exact HO.out,aLx.zero _ _ _,HW⟩
 case round =>
  clear HO HW;obtain ⟨v,hs,hv,rfl,rfl,HO,HSN,HW⟩:=hrel
  by_cases hlt:v<c.length
  .have hd0:decide (v<c.length)=true:=by simpa using hlt
   obtain ⟨b,o,R,rc,rfl,hbl,hcell,hI,_,_⟩:=(HR.out _ HW).at_ v hlt;have hle:=HL2.out _ (List.getElem_mem hlt);have HI:=aA0 hI;have HWZ:=aA0 HW.size;clear hI;have hbase:=aAa HO.out.own;have HSL:Hid (hs.length=c.length):=by have:=HO.out.own.1;rw [aJe] at this;show _=_;omega
   go_wp2_with (at_builtin;go_must (refine aIm _ rfl (.const (.slice none 0 0)) (.tmp 18) 22 rfl wr.heap.size 3 j0 (.int .i64 0) 1 8 underlying22 hj0 hy0 hy1 hy2 rfl (by decide) none 0 0 [] rfl (World.ownsRow_nil _ _ _ _) R c[v].length rc (c[v].map (Value.int .i64)) rfl HI.out.cells (aMj _) (by unfold maxLen;omega) (by omega) (Nat.le_refl _) ?_);intro A3 c3 w3 hown3 hgr3 _;rw [List.nil_append,Nat.zero_add] at hown3;have hb3:=(Bel.refl wr).grown hgr3 (fun k hk=>by cases hk);obtain ⟨_,hN⟩:=aKj hown3;have HN:=aA0 hN;have HO3:=aA0 (HO.out.keep hb3);have y1:=aDy HO3.out.own v (by rw [HSL.out];omega);have y2:=HO3.out.own.frozenAt v;have ygb:=(aAa HO3.out.own).2;replace HW:=HW.trans hb3;have HSN3:=aA0 (HSN.out.size hb3.size);clear hown3 hgr3 hb3 hN)
   go_roundg (c.length-(v+1))
   case rel =>
    have h3:=HN.out;refine ⟨v+1,hs.set v (.slice A3 c[v].length c3),by omega,rfl,by go_num,?_,aLx.size (w:=w3) (HSN3.out.set h3 HWZ.out v) (by simp),HW.setCell (by simp;omega) _⟩
    show OwnC _ _ _ _ _ _
    rw [<- bEj c v hlt];simpa using HO3.out.set (v:=v) (l:=c[v]) (A:=A3) (c':=c3) (by rw [aJe];exact hlt) h3.1 h3.2.1 h3.2.2.1 (h3.off (by omega))
   case measure=>omega
  .have hd0:decide (v<c.length)=false:=by simpa using hlt
   obtain rfl:v=c.length:=by omega
   go_wp2_with fail
   go_ret;have hO:=HO.out;rw [bEi] at hO;exact ⟨gb,_,hs,rfl,hO,HSN.out,HW⟩
attribute [local go_sem] Oper.semAt_some
theorem aF3 (S:Nat) (w:World) :
  Calls prog 85 #[.int .u32 (S:Int)] w fun e w'=>e = .returned (.func (.func 125) #[] #[.pointer (some ⟨w.heap.size,0,none⟩)])/\w'=w.alloc (.cells #[.int .u32 (S:Int)] 46):=by
 go_enter func85,ntmps85;go_wp2;go_ret;exact ⟨rfl,rfl⟩
theorem aDl.same {A B:World} (h:aDl A) (hs:A.heap.size<=B.heap.size) (hb:B.heap[0]?=A.heap[0]?):aDl B :=
 ⟨Nat.lt_of_lt_of_le h.1 hs,fun i hi=>(World.cell?_of_block hb).trans (h.2 i hi)⟩
def bPa (w:World) (B:Nat):Nat:=match w.cell? ⟨B,0,none⟩ with | some (.int _ x)=>x.toNat | _=>0
theorem aJm (n:Nat) (B S:Nat) (w:World) (hn:1<=n) (hS:S<4294967296) (hB:Boxed w B 46 (.int .u32 (S:Int))) (hT:aDl w) :
  bKl Fence.wide n prog 125 #[.pointer (some ⟨B,0,none⟩)] (fun v:Nat=>#[.int .i64 (v:Int)]) (fun k=>k=B) (fun k=>k=0) (aAd S) w:=by
 intro l J Jx W hW hJ hJx hY h0
 refine callsIn_of_wp func125 rfl trivial ?_ rfl
 simp only [ntmps125,List.size_toArray,List.length_cons,List.length_nil,Nat.reduceAdd,Nat.reduceSub,Array.replicate_succ,Array.replicate_zero,List.push_toArray,List.append_toArray,List.nil_append,List.cons_append]
 gi_wp2
 gi_loopw [] (fun wr=>∃ (pre:List Nat) (cur:Nat),Hid (Boxed wr B 46 (.int .u32 (cur:Int)))/\Hid (aDl wr)/\Hid (pre++aAd cur=aAd S)/\Hid (cur<4294967296)/\Hid (J pre wr)) (fun wr=>bPa wr B)
 case atStart=>exact ⟨[],S,by show Boxed _ _ _ _;exact (hW.block B hB.lt).trans hB,hT.keep hW,by show []++_=_;rfl,hS,h0⟩
 case round =>
  clear h0 hS hB hT;obtain ⟨pre,cur,HX,HT,HP,HC,HJ⟩:=hrel;have hc:=HX.out.cell;have hf:=HX.out.frozen;have hl:=HX.out.lt
  by_cases hz:cur=0
  .have hb:((cur:Int) != 0)=false:=by simp;exact hz
   have HZ:=aA0 hz;clear hz
   gi_wp2
   go_end0
   have h:=HP.out;rw [HZ.out,aLe,List.append_nil] at h;exact ⟨⟨_,rfl⟩,.inl (by rw [<- h];exact HJ.out)⟩
  .have hb:((cur:Int) != 0)=true:=by simp;exact hz
   obtain ⟨k,m,e1,hk,_,e2,e3⟩:=aE2 HC.out hz
   have q:bits .and .u32 (cur:Int) (((cur:Int)-1) % 4294967296)=((2 ^ k*(2*m):Nat):Int):=by
    rw [show ((cur:Int)-1) % 4294967296=((cur-1:Nat):Int) by have:=HC.out;omega,aCs HC.out (by have:=HC.out;omega),e2]
   have hlt:2 ^ k*(2*m)<cur:=by
    have:2 ^ k*(2*m)+2 ^ k=cur:=by rw [e1,Nat.mul_add,Nat.mul_one]
    have:=Nat.two_pow_pos k;omega
   have HQ:Hid (pre++[k]++aAd (2 ^ k*(2*m))=aAd S):=by
    have:=HP.out;rw [e3] at this;show _=_
    rw [List.append_assoc];exact this
   have hpre:pre++[k] <+: aAd S:=⟨_,HQ.out⟩;obtain ⟨fn,tmps,assign,body,hy,hR⟩:=hY pre k wr hpre HJ.out;generalize 2 ^ k*(2*m)=nx at q hlt HQ;have HE1:=aA0 e1;have HLT:=aA0 hlt;have HZ:=aA0 hz;clear e1 e2 e3 hz hlt hpre hk
   gi_wp2_with (refine ⟨trivial,?_⟩;gi_at_call 126;refine (callsIn_wide.2 (bQ0 cur k m _ HT.out HC.out HE1.out)).mono ?_;rintro e w' ⟨rfl,rfl⟩)
   refine hR.mono ?_
   rintro e w' (⟨rfl,hJ',hs⟩ | ⟨rfl,hJx'⟩)
   .have hbx:Boxed w' B 46 (.int .u32 (cur:Int)):=(hs.2 B HX.out.lt (.inl rfl)).trans HX.out
    have HT':Hid (aDl w'):=HT.out.same hs.1 (hs.2 _ HT.out.1 (.inr rfl));have hc':=hbx.cell;have hf':=hbx.frozen;have hl':=hbx.lt;have HX':=aA0 hbx;have HJ':=aA0 hJ';clear hbx hJ' hs hc hf hl
    gi_wp2
    go_roundw
    case rel =>
     refine ⟨pre++[k],nx,HX'.out.set _,HT'.out.same (by simp) (Below.heap_setCell _ _ _ _ ?_),HQ.out,by have:=HC.out;have:=HLT.out;show _<_;omega,hJ _ _ _ HJ'.out (Agr.setCell _ _ _ rfl)⟩
     have h1:=HX'.out;have h2:=HT'.out.2 0 (by decide)
     intro e
     simp only at e
     subst e;rw [h1.cell] at h2;cases h2
    case measure =>
     have e1:bPa wr B=cur:=by unfold bPa;rw [HX.out.cell];simp
     have e2:∀ W:World,Boxed W B 46 (.int .u32 (nx:Int))->bPa W B=nx:=fun W h=>by unfold bPa;rw [h.cell];simp
     rw [e1,e2 _ (HX'.out.set _)];exact HLT.out
   .gi_wp2
    refine bodyPost_ret (results_none rfl _ _ _) rfl ?_
    exact ⟨⟨_,rfl⟩,.inr ⟨pre++[k],⟨_,HQ.out⟩,hJx'⟩⟩
end Go.Proofs.YtmoebklkkjbigaaGreatDoor

namespace Go.Proofs.YtmoebklkkjbigaaGreatDoor
open Go.RowKit
attribute [local go_sem] Oper.semAt_some
def aKt (w:World) (b o:Nat) (x:Nat):Prop:=w.cell? ⟨b,o,none⟩=some (.int .u32 (x:Int))
theorem aKt.keeps:aNg aKt:=fun _ _ _ _ _ k hb h=>(k.cell hb).trans h
def aBw:=aAc 1 aKt
theorem aBw.keep {w w':World} {A:Option Addr} {n:Nat} {xs:List Nat} (h:aBw w A n xs) (k:Bel w w'):aBw w' A n xs:=aAc.keep aKt.keeps h k
theorem aBw.at_ {w:World} {A:Option Addr} {n:Nat} {xs:List Nat} (h:aBw w A n xs) (k:Nat) (hk:k<xs.length) :
  ∃ b o,A=some ⟨b,o,none⟩/\b<w.heap.size/\w.cell? ⟨b,o+k,none⟩=some (.int .u32 (xs[k]:Int)):=by
 obtain ⟨b,o,e,hb,h⟩:=aAc.at_ h k hk;exact ⟨b,o,e,hb,by rw [Nat.mul_one] at h;exact h⟩
def bFb (g:Graph):List Nat:=(List.range g.ports.length).map (aP2 g)
def aOp (w:World) (A:Option Addr) (g:Graph):Prop:=aBw w A g.ports.length (bFb g)
theorem aOp.keep {w w':World} {A:Option Addr} {g:Graph} (h:aOp w A g) (k:Bel w w'):aOp w' A g:=aBw.keep h k
theorem aOp.at_ {w:World} {A:Option Addr} {g:Graph} (h:aOp w A g) {v:Nat} (hv:v<g.ports.length) :
  ∃ b o,A=some ⟨b,o,none⟩/\b<w.heap.size/\w.cell? ⟨b,o+v,none⟩=some (.int .u32 (aP2 g v:Int)):=by
 obtain ⟨b,o,e,hb,h⟩:=aBw.at_ h v (by unfold bFb;simpa using hv)
 refine ⟨b,o,e,hb,?_⟩
 rw [h];simp [bFb]
theorem bHw (A:Option Addr) (c:Nat) (g:Graph) (S:Nat) (w:World) (hN:aOp w A g) (hT:aDl w) (hS:S<4294967296) (hw:∀ v,S.testBit v=true->v<g.ports.length) (hg:GOK g) :
  Calls prog 155 #[.slice A g.ports.length c,.int .u32 (S:Int)] w fun e w'=>e = .returned (.bool (aL0 g S))/\Bel w w':=by
 have HN:=aA0 (fun w' (k:Bel w w')=>hN.keep k);have HT:=aA0 (fun w' (k:Bel w w')=>hT.keep k);refine aFi func155 rfl ?_
 simp only [ntmps155,List.size_toArray,List.length_cons,List.length_nil,Nat.reduceAdd,Nat.reduceSub,Array.replicate_succ,Array.replicate_zero,List.push_toArray,List.append_toArray,List.nil_append,List.cons_append]
 go_wp2_with (go_at_call 85;refine (aF3 _ _).mono ?_;rintro e w' ⟨rfl,rfl⟩)
 obtain ⟨W0,hW0⟩:∃ W0,(((w.alloc (.cells #[.slice A g.ports.length c] 98)).alloc (.cells #[.int .u32 (S:Int)] 46)).alloc (.cells #[.bool false] 4)).alloc (.cells #[.int .u32 (S:Int)] 46)=W0:=⟨_,rfl⟩;have b1:Boxed W0 w.heap.size 98 (.slice A g.ports.length c):=by rw [<- hW0];exact (((Boxed.new w _ _).alloc _).alloc _).alloc _
 have b2:Boxed W0 (w.heap.size+1) 46 (.int .u32 (S:Int)):=by
  rw [<- hW0];have:=Boxed.new (w.alloc (.cells #[.slice A g.ports.length c] 98)) 46 (.int .u32 (S:Int));rw [World.size_alloc] at this;exact (this.alloc _).alloc _
 have b3:Boxed W0 (w.heap.size+1+1) 4 (.bool false):=by
  rw [<- hW0];have:=Boxed.new ((w.alloc (.cells #[.slice A g.ports.length c] 98)).alloc (.cells #[.int .u32 (S:Int)] 46)) 4 (.bool false);rw [World.size_alloc,World.size_alloc] at this;exact this.alloc _
 have b4:Boxed W0 (w.heap.size+1+1+1) 46 (.int .u32 (S:Int)):=by
  rw [<- hW0];have:=Boxed.new (((w.alloc (.cells #[.slice A g.ports.length c] 98)).alloc (.cells #[.int .u32 (S:Int)] 46)).alloc (.cells #[.bool false] 4)) 46 (.int .u32 (S:Int));rw [World.size_alloc,World.size_alloc,World.size_alloc] at this;exact this
 have hb0:Bel w W0:=by rw [<- hW0];exact ((((Bel.refl w).alloc _).alloc _).alloc _).alloc _
 have hz0:W0.heap.size=w.heap.size+1+1+1+1:=by rw [<- hW0];simp
 rw [hW0];clear hW0;refine (wpIn_wide (n:=5)).1 ?_
 refine aFn (n:=5) rfl (by decide) (gf:=125) (lb:=#[.pointer (some ⟨w.heap.size+1+1+1,0,none⟩)]) (by simp [go_sem]) trivial (enters_of func125 (by kernel_rfl) rfl)
  (aJm 4 _ S W0 (by decide) hS b4 (HT.out _ hb0)) (by rintro k rfl;omega) (by rintro k rfl;exact (HT.out _ hb0).1) (fun _=>rfl) (fun k=>k=w.heap.size+1+1+1∨k=W0.heap.size∨k=W0.heap.size+1) (fun k=>Iff.rfl)
  (fun pre W=>Boxed W w.heap.size 98 (.slice A g.ports.length c)/\Boxed W (w.heap.size+1) 46 (.int .u32 (S:Int))/\Boxed W (w.heap.size+1+1) 4 (.bool false)/\(∀ v∈pre,aP2 g v&&&S=0)/\Bel w W)
  (fun c pre W=>c = .ret/\Boxed W (w.heap.size+1+1) 4 (.bool false)/\aL0 g S=false/\Bel w W)
  (fun s A B ⟨h1,h2,h3,h4,h5⟩ hg=>⟨hg.boxed h1 (by omega),hg.boxed h2 (by omega),hg.boxed h3 (by omega),h4,hg.belE h5 (by omega)⟩)
  (fun c s A B ⟨h1,h2,h3,h4⟩ hg=>⟨h1,hg.boxed h2 (by omega),h3,hg.belE h4 (by omega)⟩)
  ⟨b1,b2,b3,by simp,hb0⟩
  (fun x a' W=>a'={ tmps:=#[.slice A g.ports.length c,.int .u32 (S:Int),.pointer (some ⟨w.heap.size,0,none⟩),.pointer (some ⟨w.heap.size+1,0,none⟩),.pointer (some ⟨w.heap.size+1+1,0,none⟩),.int .i64 (x:Int),.int .u32 (S:Int),.func (.func 125) #[] #[.pointer (some ⟨w.heap.size+1+1+1,0,none⟩)],.int .i64 (x:Int),undef,undef,undef,undef,undef,undef,undef],defers:=[] })
  (fun _ _ _ _ h _=>h) ?assign ?body ?done ?stop
 case assign =>
  intro pre x W K hp hI hl hK
  gi_wp2
  exact hK _ _ (aBf.refl _ _) hI rfl
 case body =>
  rintro pre x a' W hp ⟨h1,h2,h3,h4,h5⟩ rfl hl ⟨r,hr⟩;obtain ⟨c1,f1,l1⟩:=aAs h1;obtain ⟨c2,f2,l2⟩:=aAs h2;obtain ⟨c3,f3,l3⟩:=aAs h3;have hx:x∈aAd S:=hp.subset (by simp)
  have hxn:=hw x (aC8.1 hx).2;obtain ⟨b,o,e,hb,hc⟩:=(HN.out _ h5).at_ hxn;subst e;have q:=aCs (bAy hg x) hS;have hdx:decide (x<g.ports.length)=true:=by simpa using hxn
  generalize hnv:aP2 g x=N at *;refine wpIn_block (wpIn_seq ?_)
  refine aA4.startIn (fun w'=>w'.cell? ⟨w.heap.size,0,none⟩=some (.slice (some ⟨b,o,none⟩) g.ports.length c)/\w'.cell? ⟨w.heap.size+1,0,none⟩=some (.int .u32 (S:Int))/\w'.cell? ⟨b,o+x,none⟩=some (.int .u32 (N:Int))/\w.heap.size<w'.heap.size/\w.heap.size+1<w'.heap.size/\b<w'.heap.size) 6 (by kernel_rfl) (by kernel_rfl) (by rintro ⟨_,_,h⟩;exact h) ?_
  have hHeld:W.drew.cell? ⟨w.heap.size,0,none⟩=some (.slice (some ⟨b,o,none⟩) g.ports.length c)/\W.drew.cell? ⟨w.heap.size+1,0,none⟩=some (.int .u32 (S:Int))/\W.drew.cell? ⟨b,o+x,none⟩=some (.int .u32 (N:Int))/\w.heap.size<W.drew.heap.size/\w.heap.size+1<W.drew.heap.size/\b<W.drew.heap.size:=⟨c1,c2,hc,l1,l2,hb⟩
  by_cases hz:N&&&S=0
  .rw [hz] at q
   (refine aA4.u (v:=?_) 0 9 rfl hHeld ?_ ?_;rotate_left 1;focus (intro w' hSw;(try dsimp only at hSw);go_simp;(try with_reducible rfl);done))
   (refine aA4.u (v:=?_) 1 10 rfl hHeld ?_ ?_;rotate_left 1;focus (intro w' hSw;(try dsimp only at hSw);go_simp;(try with_reducible rfl);done))
   (refine aA4.u (v:=?_) 2 11 rfl hHeld ?_ ?_;rotate_left 1;focus (intro w' hSw;(try dsimp only at hSw);go_simp;(try with_reducible rfl);done))
   (refine aA4.u (v:=?_) 3 12 rfl hHeld ?_ ?_;rotate_left 1;focus (intro w' hSw;(try dsimp only at hSw);go_simp;(try with_reducible rfl);done))
   (refine aA4.u (v:=?_) 4 13 rfl hHeld ?_ ?_;rotate_left 1;focus (intro w' hSw;(try dsimp only at hSw);go_simp;(try with_reducible rfl);done))
   (refine aA4.u (v:=?_) 5 14 rfl hHeld ?_ ?_;rotate_left 1;focus (intro w' hSw;(try dsimp only at hSw);go_simp;(try with_reducible rfl);done))
   refine aA4.one (i:=6) (by kernel_rfl) rfl (fun K hK=>?_)
   go_simp
   refine hK.out _ _ (fun h=>absurd rfl h) ?_
   refine aA4.done (by kernel_rfl) ?_ _
   (try simp only [Act.put,List.setIfInBounds_toArray,List.set_cons_zero,List.set_cons_succ])
   change Code.wpIn _ _ _ _ _ _ _
   gi_wp2
   exact ⟨aBf.of_bel ((Bel.refl W).drew),h1,h2,h3,fun v hv=>by
    rcases List.mem_append.1 hv with hv | hv
    .exact h4 v hv
    .obtain rfl:v=x:=by simpa using hv
     rw [hnv];exact hz,h5.drew⟩
  .have hq:(((N&&&S:Nat):Int) != 0)=true:=by simpa using hz
   have hpf:aL0 g S=false:=by
    rw [Bool.eq_false_iff];intro hp
    have:=(aKd hS).1 hp x (aC8.1 hx).2;rw [hnv] at this;exact hz this
   generalize N&&&S=M at *
   (refine aA4.u (v:=?_) 0 9 rfl hHeld ?_ ?_;rotate_left 1;focus (intro w' hSw;(try dsimp only at hSw);go_simp;(try with_reducible rfl);done))
   (refine aA4.u (v:=?_) 1 10 rfl hHeld ?_ ?_;rotate_left 1;focus (intro w' hSw;(try dsimp only at hSw);go_simp;(try with_reducible rfl);done))
   (refine aA4.u (v:=?_) 2 11 rfl hHeld ?_ ?_;rotate_left 1;focus (intro w' hSw;(try dsimp only at hSw);go_simp;(try with_reducible rfl);done))
   (refine aA4.u (v:=?_) 3 12 rfl hHeld ?_ ?_;rotate_left 1;focus (intro w' hSw;(try dsimp only at hSw);go_simp;(try with_reducible rfl);done))
   (refine aA4.u (v:=?_) 4 13 rfl hHeld ?_ ?_;rotate_left 1;focus (intro w' hSw;(try dsimp only at hSw);go_simp;(try with_reducible rfl);done))
   (refine aA4.u (v:=?_) 5 14 rfl hHeld ?_ ?_;rotate_left 1;focus (intro w' hSw;(try dsimp only at hSw);go_simp;(try with_reducible rfl);done))
   refine aA4.one (i:=6) (by kernel_rfl) rfl (fun K hK=>?_)
   go_simp
   refine hK.out _ _ (fun h=>absurd rfl h) ?_
   refine aA4.done (by kernel_rfl) ?_ _
   (try simp only [Act.put,List.setIfInBounds_toArray,List.set_cons_zero,List.set_cons_succ])
   change Code.wpIn _ _ _ _ _ _ _
   gi_wp2
   refine ⟨(aBf.of_bel ((Bel.refl W).drew)).trans (aBf.setCell _ _ _ ?_),rfl,Boxed.set _ (show Boxed W.drew _ _ _ from h3),hpf,h5.drew.setCell (by simp;omega) _⟩
   have:=hT.1;rintro ((h | h | h) | h) <;> simp at h <;> omega
 case done =>
  rintro W ⟨h1,h2,h3,h4,h5⟩ hK;obtain ⟨c3,f3,l3⟩:=aAs h3;have hpt:aL0 g S=true:=(aKd hS).2 fun v hv=>h4 v (aC8.2 ⟨aIp hS hv,hv⟩);go_wp2;have h3':=h3.set (.bool true);refine aD7 (B:=w.heap.size) (aE5.push (aE5.nil _ _) (by omega) ((Below.heap_setCell _ _ _ _ (by simp;omega)).trans hK) (by simp)) ?_
  intro W' hA hs
  have hr:=hA.cellD h3'.cell;exact ⟨.bool true,by simp [results,Tryz.results155,go_sem,hr],aA1 hpt.symm,hA.bel (h5.setCell (by simp;omega) _)⟩
 case stop =>
  rintro c' pre W hp ⟨rfl,h3,hpf,h5⟩ hK;refine wpIn_wide.2 ?_
  go_wp2;refine aD7 (B:=w.heap.size) (aE5.push (aE5.nil _ _) (by omega) hK (by simp)) ?_
  intro W' hA hs
  have hr:=hA.cellD h3.cell;exact ⟨.bool false,by simp [results,Tryz.results155,go_sem,hr],aA1 hpf.symm,hA.bel h5⟩
end Go.Proofs.YtmoebklkkjbigaaGreatDoor

namespace Go.Proofs.YtmoebklkkjbigaaGreatDoor
open Go.RowKit
theorem aAn {w:World} {B e e' size size' n n':Nat} {v v':Value} {xs xs':List Value} (h:w.ownsRow B e size v n xs) (h':w.ownsRow B e' size' v' n' xs') (hne:e≠e'):v'.ownBlock=none∨v'.ownBlock≠v.ownBlock:=by
 rcases h.2 with ⟨rfl,_⟩ | ⟨g,cap,cur,rfl,_,hg,_⟩
 .rcases h'.2 with ⟨rfl,_⟩ | ⟨g',cap',cur',rfl,_,hg',_⟩
  .exact .inl rfl
  .right;simp [Value.ownBlock]
 .rcases h'.2 with ⟨rfl,_⟩ | ⟨g',cap',cur',rfl,_,hg',_⟩
  .exact .inl rfl
  .right
   simp only [Value.ownBlock]
   intro he
   injection he with he
   subst he;rw [hg] at hg';injection hg' with hg'
   injection hg' with _ ht
   exact hne ht
def aEd (n:Nat) (bs:List (Nat × Nat)):List Value:=bs.map fun b=>Value.slice (some ⟨b.1,0,none⟩) n b.2
theorem aLo {n:Nat} {bs:List (Nat × Nat)} {u:Nat} {b:Nat × Nat} (h:bs[u]?=some b):(aEd n bs)[u]?=some (.slice (some ⟨b.1,0,none⟩) n b.2):=by
 unfold aEd;rw [List.getElem?_map,h];rfl
structure RowsC (w:World) (base:Nat) (B:Option Addr) (cap n:Nat) (d:aA3) (bs:List (Nat × Nat)):Prop where
 own:w.ownsRow base 22 1 (.slice B d.length cap) d.length (aEd n bs)
 rows:∀ (u:Nat) (x:List Int),d[u]?=some x->∃ b,bs[u]?=some b/\w.ownsRow base 3 1 (.slice (some ⟨b.1,0,none⟩) n b.2) n (x.map (Value.int .i64))
 apart:∀ (u v:Nat) (a b:Nat × Nat),bs[u]?=some a->bs[v]?=some b->u≠v->a.1≠b.1
theorem RowsC.nil (w:World) (base n:Nat):RowsC w base none 0 n [] []:=⟨World.ownsRow_nil _ _ _ _,fun u x h=>by simp at h,fun u v a b h=>by simp at h⟩
theorem RowsC.keep {w w':World} {base cap n:Nat} {B:Option Addr} {d:aA3} {bs:List (Nat × Nat)} (h:RowsC w base B cap n d bs) (k:Bel w w'):RowsC w' base B cap n d bs :=
 ⟨k.owns h.own,fun u x hx=>by
  obtain ⟨b,h1,h2⟩:=h.rows u x hx;exact ⟨b,h1,k.owns h2⟩,h.apart⟩
theorem RowsC.length {w:World} {base cap n:Nat} {B:Option Addr} {d:aA3} {bs:List (Nat × Nat)} (h:RowsC w base B cap n d bs):bs.length=d.length:=by
 have:=h.own.1;unfold aEd at this;rw [List.length_map] at this;omega
theorem RowsC.off {w:World} {base cap n m cap' g:Nat} {B:Option Addr} {d:aA3} {bs:List (Nat × Nat)} (h:RowsC w base B cap n d bs) {l:List Value} (hr:w.ownsRow base 3 1 (.slice (some ⟨g,0,none⟩) m cap') m l):some g≠(Value.slice B d.length cap).ownBlock:=by
 rcases aAn h.own hr (by decide) with e | e
 .simp [Value.ownBlock] at e
 .simpa [Value.ownBlock] using e
theorem RowsC.push {w w3 w':World} {base cap n:Nat} {B:Option Addr} {d:aA3} {bs:List (Nat × Nat)} (h:RowsC w base B cap n d bs) (hbase:base<=w.heap.size) {l:List Int} {g c:Nat} {m:Nat} (hm:d.length=m)
  (hN:w3.ownsRow w.heap.size 3 1 (.slice (some ⟨g,0,none⟩) n c) n (l.map (Value.int .i64))) (hb:Bel w w3) {o:Obj}
  {B':Option Addr} {cap':Nat} (hown:w'.ownsRow base 22 1 (.slice B' (m+1) cap') (m+1) (aEd n bs++[.slice (some ⟨g,0,none⟩) n c])) (hgr:(w3.alloc o).grownBy w' (Value.slice B m cap).ownBlock) :
  RowsC w' base B' cap' n (d++[l]) (bs++[(g,c)]):=by
 subst hm;have hk:=h.keep hb;have hlen:=h.length;have hg:Gr (Value.slice B d.length cap).ownBlock w3 w':=(Gr.of_bel ((Bel.refl w3).alloc o)).trans (Gr.grown hgr);have hN':=aAu hN hbase;have hgl:=(aAa hN).1;refine ⟨by rw [List.length_append];unfold aEd at *;rw [List.map_append];exact hown,fun u x hx=>?_,fun u v a b ha hv huv=>?_⟩
 .by_cases hu:u<d.length
  .rw [List.getElem?_append_left hu] at hx
   obtain ⟨b,h1,h2⟩:=hk.rows u x hx;exact ⟨b,by rw [List.getElem?_append_left (by omega)];exact h1,bD2 h2 hg (hk.off h2)⟩
  .have hul:u=d.length:=by
    have:=(List.getElem?_eq_some_iff.1 hx).1;simp at this;omega
   subst hul;rw [List.getElem?_append_right (Nat.le_refl _)] at hx;obtain rfl:l=x:=by simpa using hx
   exact ⟨(g,c),by rw [List.getElem?_append_right (by omega),hlen];simp,bD2 hN' hg (hk.off hN')⟩
 .have old:∀ (u:Nat) (a:Nat × Nat),u<d.length->bs[u]?=some a->a.1<w.heap.size:=fun u a hu ha=>by
   obtain ⟨b,h1,h2⟩:=h.rows u d[u] (List.getElem?_eq_getElem hu);rw [h1] at ha;injection ha with ha
   subst ha;exact bN3 h2
  have new:∀ (u:Nat) (a:Nat × Nat),¬ u<d.length->(bs++[(g,c)])[u]?=some a->u=d.length/\a=(g,c):=fun u a hu ha=>by
   have h1:=(List.getElem?_eq_some_iff.1 ha).1;simp at h1
   have h2:u=d.length:=by omega
   subst h2;rw [List.getElem?_append_right (by omega),hlen] at ha
   exact ⟨rfl,by simpa using ha.symm⟩
  by_cases h1:u<d.length
  .rw [List.getElem?_append_left (by omega)] at ha
   by_cases h2:v<d.length
   .rw [List.getElem?_append_left (by omega)] at hv
    exact h.apart u v a b ha hv huv
   .obtain ⟨_,rfl⟩:=new v b h2 hv
    have:=old u a h1 ha;show a.1≠g
    omega
  .obtain ⟨e1,rfl⟩:=new u a h1 ha
   by_cases h2:v<d.length
   .rw [List.getElem?_append_left (by omega)] at hv
    have:=old v b h2 hv;show g≠b.1
    omega
   .obtain ⟨e2,_⟩:=new v b h2 hv
    omega
theorem RowsC.conf {w:World} {base cap n g:Nat} {d:aA3} {bs:List (Nat × Nat)} (h:RowsC w base (some ⟨g,0,none⟩) cap n d bs):aD2 w (.slice (some ⟨g,0,none⟩) d.length cap) d:=by
 obtain ⟨h1,h2⟩:=aCd h.own;refine ⟨_,_,rfl,⟨rfl,fun u x hx=>?_⟩,h1,h2⟩
 obtain ⟨b,k1,k2⟩:=h.rows u x hx;obtain ⟨g',e1,_,hlt,hc,_⟩:=aAj h.own (aLo k1);obtain rfl:g=g':=by simpa using e1
 obtain ⟨rfl,k3⟩:=aKj k2;exact ⟨g,0,rfl,hlt,_,b.2,by rw [Nat.zero_add,Nat.mul_one];exact hc,k3.1,k3.2.1,k3.2.2.1⟩
theorem RowsC.form {w:World} {base cap n:Nat} {B:Option Addr} {d:aA3} {bs:List (Nat × Nat)} (h:RowsC w base B cap n d bs) (hd:0<d.length):∃ g,B=some ⟨g,0,none⟩:=by
 obtain ⟨g,cap',hv,_⟩:=h.own.form hd;injection hv with hA
 exact ⟨g,hA⟩
theorem RowsC.put {w:World} {base cap n g:Nat} {d:aA3} {bs:List (Nat × Nat)} (h:RowsC w base (some ⟨g,0,none⟩) cap n d bs) {u:Nat} {b:Nat × Nat} {x:List Int} (hb:bs[u]?=some b) (hx:d[u]?=some x) (i:Nat) (y:Int) :
  RowsC (w.setCell ⟨b.1,i,none⟩ (.int .i64 y)) base (some ⟨g,0,none⟩) cap n (d.set u (x.set i y)) bs:=by
 have hFr:Fr b.1 w (w.setCell ⟨b.1,i,none⟩ (.int .i64 y)):=(Fr.refl b.1 w).set i _;obtain ⟨b',h1,h2⟩:=h.rows u x hx;rw [hb] at h1;injection h1 with h1
 subst h1;have hne:=h.off h2;refine ⟨by rw [List.length_set];exact aH8 h.own hFr (fun e=>hne (by rw [e];rfl)),fun v z hz=>?_,h.apart⟩
 have hu:u<d.length:=(List.getElem?_eq_some_iff.1 hx).1
 by_cases he:u=v
 .subst he
  rw [List.getElem?_set_self hu] at hz;injection hz with hz
  subst hz;refine ⟨b,hb,?_⟩
  rw [List.map_set];exact (h2.stored i _).1
 .rw [List.getElem?_set_ne he] at hz
  obtain ⟨b2,k1,k2⟩:=h.rows v z hz;exact ⟨b2,k1,aH8 k2 hFr (h.apart v u b2 b k1 hb (fun e=>he e.symm))⟩
structure BldC (w:World) (base gb n m:Nat) (d:aA3) (bs:List (Nat × Nat)):Prop where
 own:w.ownsRow base 22 1 (.slice (some ⟨gb,0,none⟩) n n) n (aEd m bs++List.replicate (n-d.length) (.slice none 0 0))
 rows:∀ (u:Nat) (x:List Int),d[u]?=some x->∃ b,bs[u]?=some b/\w.ownsRow base 3 1 (.slice (some ⟨b.1,0,none⟩) m b.2) m (x.map (Value.int .i64))
 apart:∀ (u v:Nat) (a b:Nat × Nat),bs[u]?=some a->bs[v]?=some b->u≠v->a.1≠b.1
 len:bs.length=d.length
theorem BldC.keep {w w':World} {base gb n m:Nat} {d:aA3} {bs:List (Nat × Nat)} (h:BldC w base gb n m d bs) (k:Bel w w'):BldC w' base gb n m d bs :=
 ⟨k.owns h.own,fun u x hx=>by
  obtain ⟨b,h1,h2⟩:=h.rows u x hx;exact ⟨b,h1,k.owns h2⟩,h.apart,h.len⟩
theorem BldC.off {w:World} {base gb n m:Nat} {d:aA3} {bs:List (Nat × Nat)} (h:BldC w base gb n m d bs) {m' g cap':Nat} {l:List Value} (hr:w.ownsRow base 3 1 (.slice (some ⟨g,0,none⟩) m' cap') m' l):g≠gb:=by
 rcases aAn h.own hr (by decide) with e | e
 .simp [Value.ownBlock] at e
 .simpa [Value.ownBlock] using e
theorem BldC.start {w:World} {base gb n m:Nat} (h:w.ownsRow base 22 1 (.slice (some ⟨gb,0,none⟩) n n) n (List.replicate n (.slice none 0 0))):BldC w base gb n m [] [] :=
 ⟨by simpa [aEd] using h,fun u x hx=>by simp at hx,fun u v a b ha=>by simp at ha,rfl⟩
theorem BldC.push {w w1:World} {base gb n m:Nat} {d:aA3} {bs:List (Nat × Nat)} (h:BldC w base gb n m d bs) (hd:d.length<n) (hbase:base<=w.heap.size) (hb:Bel w w1) {gr c:Nat} {l:List Int}
  (hN:w1.ownsRow w.heap.size 3 1 (.slice (some ⟨gr,0,none⟩) m c) m (l.map (Value.int .i64))) :
  BldC (w1.setCell ⟨gb,d.length,none⟩ (.slice (some ⟨gr,0,none⟩) m c)) base gb n m (d++[l]) (bs++[(gr,c)]):=by
 have hk:=h.keep hb;have hlen:=h.len;have hN':=aAu hN hbase;have hgl:=(aAa hN).1;have hFr:Fr gb w1 (w1.setCell ⟨gb,d.length,none⟩ (.slice (some ⟨gr,0,none⟩) m c)):=(Fr.refl gb w1).set _ _;refine ⟨?_,fun u x hx=>?_,fun u v a b ha hv huv=>?_,by simp [hlen]⟩
 .have h1:=(hk.own.stored d.length (.slice (some ⟨gr,0,none⟩) m c)).1
  have e:(aEd m bs++List.replicate (n-d.length) (Value.slice none 0 0)).set d.length (.slice (some ⟨gr,0,none⟩) m c)=aEd m (bs++[(gr,c)])++List.replicate (n-(d++[l]).length) (.slice none 0 0):=by
   have hr:(aEd m bs).length=d.length:=by unfold aEd;rw [List.length_map,hlen]
   rw [List.set_append_right _ _ (by omega),hr,Nat.sub_self,show n-d.length=(n-(d.length+1))+1 by omega,List.replicate_succ,List.set_cons_zero]
   unfold aEd;rw [List.map_append,List.append_assoc,List.length_append];rfl
  rw [e] at h1;exact h1
 .by_cases hu:u<d.length
  .rw [List.getElem?_append_left hu] at hx
   obtain ⟨b,h1,h2⟩:=hk.rows u x hx;exact ⟨b,by rw [List.getElem?_append_left (by omega)];exact h1,aH8 h2 hFr (hk.off h2)⟩
  .have hul:u=d.length:=by
    have:=(List.getElem?_eq_some_iff.1 hx).1;simp at this;omega
   subst hul;rw [List.getElem?_append_right (Nat.le_refl _)] at hx;obtain rfl:l=x:=by simpa using hx
   exact ⟨(gr,c),by rw [List.getElem?_append_right (by omega),hlen];simp,aH8 hN' hFr (hk.off hN')⟩
 .have old:∀ (u:Nat) (a:Nat × Nat),u<d.length->bs[u]?=some a->a.1<w.heap.size:=fun u a hu ha=>by
   obtain ⟨b,h1,h2⟩:=h.rows u d[u] (List.getElem?_eq_getElem hu);rw [h1] at ha;injection ha with ha
   subst ha;exact bN3 h2
  have new:∀ (u:Nat) (a:Nat × Nat),¬ u<d.length->(bs++[(gr,c)])[u]?=some a->u=d.length/\a=(gr,c):=fun u a hu ha=>by
   have h1:=(List.getElem?_eq_some_iff.1 ha).1;simp at h1
   have h2:u=d.length:=by omega
   subst h2;rw [List.getElem?_append_right (by omega),hlen] at ha
   exact ⟨rfl,by simpa using ha.symm⟩
  by_cases h1:u<d.length
  .rw [List.getElem?_append_left (by omega)] at ha
   by_cases h2:v<d.length
   .rw [List.getElem?_append_left (by omega)] at hv
    exact h.apart u v a b ha hv huv
   .obtain ⟨_,rfl⟩:=new v b h2 hv
    have:=old u a h1 ha;show a.1≠gr
    omega
  .obtain ⟨e1,rfl⟩:=new u a h1 ha
   by_cases h2:v<d.length
   .rw [List.getElem?_append_left (by omega)] at hv
    have:=old v b h2 hv;show gr≠b.1
    omega
   .obtain ⟨e2,_⟩:=new v b h2 hv
    omega
theorem BldC.put {w:World} {base gb n m:Nat} {d:aA3} {bs:List (Nat × Nat)} (h:BldC w base gb n m d bs) {u:Nat} {b:Nat × Nat} {x:List Int} (hb:bs[u]?=some b) (hx:d[u]?=some x) (i:Nat) (y:Int) :
  BldC (w.setCell ⟨b.1,i,none⟩ (.int .i64 y)) base gb n m (d.set u (x.set i y)) bs:=by
 have hFr:Fr b.1 w (w.setCell ⟨b.1,i,none⟩ (.int .i64 y)):=(Fr.refl b.1 w).set i _;obtain ⟨b',h1,h2⟩:=h.rows u x hx;rw [hb] at h1;injection h1 with h1
 subst h1;have hne:=h.off h2;refine ⟨by rw [List.length_set];exact aH8 h.own hFr (fun e=>hne e.symm),fun v z hz=>?_,h.apart,by rw [List.length_set];exact h.len⟩
 have hu:u<d.length:=(List.getElem?_eq_some_iff.1 hx).1
 by_cases he:u=v
 .subst he
  rw [List.getElem?_set_self hu] at hz;injection hz with hz
  subst hz;refine ⟨b,hb,?_⟩
  rw [List.map_set];exact (h2.stored i _).1
 .rw [List.getElem?_set_ne he] at hz
  obtain ⟨b2,k1,k2⟩:=h.rows v z hz;exact ⟨b2,k1,aH8 k2 hFr (h.apart v u b2 b k1 hb (fun e=>he e.symm))⟩
theorem BldC.done {w:World} {base gb n m:Nat} {d:aA3} {bs:List (Nat × Nat)} (h:BldC w base gb n m d bs) (hd:d.length=n):RowsC w base (some ⟨gb,0,none⟩) n m d bs:=by
 refine ⟨?_,h.rows,h.apart⟩
 have h1:=h.own;rw [hd,Nat.sub_self,List.replicate_zero,List.append_nil] at h1;rw [hd];exact h1
theorem BldC.head {w:World} {base gb n m:Nat} {d:aA3} {bs:List (Nat × Nat)} (h:BldC w base gb n m d bs) {u:Nat} {b:Nat × Nat} (hb:bs[u]?=some b):w.cell? ⟨gb,u,none⟩=some (.slice (some ⟨b.1,0,none⟩) m b.2):=by
 have hu:u<bs.length:=(List.getElem?_eq_some_iff.1 hb).1
 obtain ⟨g',e1,_,_,hc,_⟩:=aAj h.own (j:=u) (u := .slice (some ⟨b.1,0,none⟩) m b.2) (by
  rw [List.getElem?_append_left (by unfold aEd;rw [List.length_map];exact hu)]
  exact aLo hb)
 obtain rfl:gb=g':=by simpa using e1
 exact hc
theorem BldC.free {w:World} {base gb n m:Nat} {d:aA3} {bs:List (Nat × Nat)} (h:BldC w base gb n m d bs) (hd:d.length<n):w.cell? ⟨gb,d.length,none⟩=some (.slice none 0 0):=by
 obtain ⟨g',e1,_,_,hc,_⟩:=aAj h.own (j:=d.length) (u := .slice none 0 0) (by
  have hr:(aEd m bs).length=d.length:=by unfold aEd;rw [List.length_map,h.len]
  rw [List.getElem?_append_right (by omega),hr,Nat.sub_self,List.getElem?_replicate,if_pos (by omega)])
 obtain rfl:gb=g':=by simpa using e1
 exact hc
theorem RowsC.head {w:World} {base cap n g:Nat} {d:aA3} {bs:List (Nat × Nat)} (h:RowsC w base (some ⟨g,0,none⟩) cap n d bs) {u:Nat} {b:Nat × Nat} (hb:bs[u]?=some b):w.cell? ⟨g,u,none⟩=some (.slice (some ⟨b.1,0,none⟩) n b.2):=by
 obtain ⟨g',e1,_,_,hc,_⟩:=aAj h.own (aLo hb);obtain rfl:g=g':=by simpa using e1
 exact hc
section
variable (A:Nat->List Nat) (t:Nat->Int)
end
abbrev Wd:=List UInt8
def bAu (w:Wd):Bool:=decide (1<=w.length)&&decide (w.length<=24)&&aJh (w.headD 0)&&w.all aEc && !([[112,114,111,103,114,97,109],[118,97,114],[114,117,108,101],[98,111,111,108],[112,111,114,116],[116,114,117,101],[102,97,108,115,101],[110,111,110,101],[110],[105,100,115],[105,100],[100,101,103],[114,111,111,116],[113],[119,101,105,103,104,116],[98,97,99,107],[97,108,108],[115,111,109,101],[99,111,117,110,116],[102,105,114,115,116],[109,105,110],[109,97,120],[115,117,109],[109,101,120],[115,101,99,111,110,100],[104,101,97,100]]:List Wd).contains w
def aG1 (w:Wd) (first:Nat) (l:List Wd):Nat:=if w=[] then 0 else match l.findIdx? (·==w) with | some i=>first+i | none=>0
def binL:List Wd:=[[42],[47],[37],[43],[45],[61,61],[33,61],[60],[60,61],[62],[62,61],[38,38],[124,124]]
def aggL:List Wd:=[[97,108,108],[115,111,109,101],[99,111,117,110,116],[102,105,114,115,116],[109,105,110],[109,97,120],[115,117,109],[109,101,120],[115,101,99,111,110,100],[104,101,97,100]]
def conL:List Wd:=[[116,114,117,101],[102,97,108,115,101],[110,111,110,101],[],[110],[105,100,115],[105,100],[100,101,103],[114,111,111,116]]
def fldL:List Wd:=[[105,100],[100,101,103],[114,111,111,116],[119,101,105,103,104,116],[98,97,99,107]]
def aS5 (w:Wd):Nat:=aG1 w 30 binL
def bDy (w:Wd):Nat:=aG1 w 20 aggL
def bEb (w:Wd):Nat:=aG1 w 2 conL
def bAb (w:Wd):Nat:=aG1 w 13 fldL
def aY0 (op:Nat):Nat :=
 if op=43 then 0 else if op=42 then 1 else if op=41 then 2 else if 35<=op/\op<=40 then 3 else if op=33∨op=34 then 4 else if 30<=op/\op<=32 then 5 else if op=18∨op=19 then 6 else 7
section
variable (T:Wd)
def aIw:List Tok->Nat
 | []=>0
 | t :: _=>t.kind
def aAg (w:Wd) (ts:List Tok):Option (List Tok):=if aB8 T ts=w then some ts.tail else none
def aFb (N:List Wd) (ts:List Tok):Option (Nat × List Tok) :=
 if aIw ts=1/\bAu (aB8 T ts)=true then (match N.findIdx? (·==aB8 T ts) with | some i=>some (i,ts.tail) | none=>none) else none
def aKr (op arg:Nat):List Term:=[⟨(op:Int),(arg:Int)⟩]
def aW5 (op:Nat) (l:List (List Term)):List Term:=aKr op 0++l.flatten
inductive Cat where
 | choice
 | bin (l:Nat)
 | more (l:Nat) (left:List Term)
 | unary
 | primary
def aC9 (N:List Wd):Nat->Cat->List Tok->Option (List Term × List Tok)
 | 0,_,_=>none
 | n+1,.choice,ts=>(aC9 N n (.bin 1) ts).bind fun (c,t1) =>
   match aAg T [63] t1 with
   | none=>some (c,t1)
   | some t2=>(aC9 N n .choice t2).bind fun (y,t3)=>(aAg T [58] t3).bind fun t4=>(aC9 N n .choice t4).bind fun (z,t5)=>some (aW5 43 [c,y,z],t5)
 | n+1,.bin l,ts=>if l=6 then aC9 N n .unary ts else (aC9 N n (.bin (l+1)) ts).bind fun (a,t1)=>aC9 N n (.more l a) t1
 | n+1,.more l a,ts =>
   if aS5 (aB8 T ts)=0∨aY0 (aS5 (aB8 T ts))≠l then some (a,ts)
   else (aC9 N n (.bin (l+1)) ts.tail).bind fun (b,t1) =>
    if l=3 then some (aW5 (aS5 (aB8 T ts)) [a,b],t1) else aC9 N n (.more l (aW5 (aS5 (aB8 T ts)) [a,b])) t1
 | n+1,.unary,ts =>
   match aAg T [45] ts with
   | some t1=>(aC9 N n .unary t1).bind fun (a,t2)=>some (aW5 18 [a],t2)
   | none=>match aAg T [33] ts with
    | some t1=>(aC9 N n .unary t1).bind fun (a,t2)=>some (aW5 19 [a],t2)
    | none=>aC9 N n .primary ts
 | n+1,.primary,ts =>
   if aIw ts=2 then some (aKr 1 (ts.headD default).num,ts.tail)
   else match aAg T [40] ts with
    | some t1=>(aC9 N n .choice t1).bind fun (a,t2)=>(aAg T [41] t2).bind fun t3=>some (a,t3)
    | none=>match aAg T [113] ts with
     | some t1=>(match aAg T [46] t1 with
      | none=>some (aKr 11 0,t1)
      | some t2=>if bAb (aB8 T t2)≠0 then some (aKr (bAb (aB8 T t2)) 0,t2.tail) else (aFb T N t2).bind fun (x,t3)=>some (aKr 12 x,t3))
     | none =>
      if bEb (aB8 T ts)≠0 then some (aKr (bEb (aB8 T ts)) 0,ts.tail)
      else if bDy (aB8 T ts)≠0 then (aAg T [40] ts.tail).bind fun t1=>(aC9 N n .choice t1).bind fun (a,t2)=>(aAg T [41] t2).bind fun t3=>some (aW5 (bDy (aB8 T ts)) [a],t3)
      else (aFb T N ts).bind fun (x,t1)=>some (aKr 5 x,t1)
def aKi (taken:List Wd) (ts:List Tok):Option (Wd × List Tok) :=
 if aIw ts=1/\bAu (aB8 T ts)=true/\taken.contains (aB8 T ts)=false then some (aB8 T ts,ts.tail) else none
def aV4 (lo hi:Nat) (ts:List Tok):Option (Nat × List Tok) :=
 if aIw ts=2/\lo<=(ts.headD default).num/\(ts.headD default).num<=hi then some ((ts.headD default).num,ts.tail) else none
def ba (w:Wd):ByteArray:=⟨⟨w⟩⟩
def bOr (ts:List Tok):Option ((Int × Int × Int) × List Tok) :=
 match aAg T [98,111,111,108] ts with
 | some t1=>some ((2,0,0),t1)
 | none=>match aAg T [112,111,114,116] ts with
  | some t1=>some ((3,0,0),t1)
  | none=>(aV4 0 4096 ts).bind fun (lo,t1)=>(aAg T [46,46] t1).bind fun t2 =>
    if aIw t2=2 then none else (aAg T [110] t2).bind fun t3=>if aB8 T t3=[43]∨aB8 T t3=[45] then none else some ((1,(lo:Int),1),t3)
def varL (N:List Wd) (ts:List Tok):Option ((Wd × Var) × List Tok) :=
 (aKi T N ts).bind fun (x,t1)=>(aAg T [58] t1).bind fun t2=>(bOr T t2).bind fun (k,t3)=>(aAg T [59] t3).bind fun t4=>some ((x,⟨ba x,k.1,k.2.1,0,k.2.2,0⟩),t4)
def bBt:Nat->List Wd->List Var->List Tok->Option ((List Wd × List Var) × List Tok)
 | 0,_,_,_=>none
 | n+1,N,V,ts=>if aB8 T ts=[118,97,114] then (if V.length=6 then none else (varL T N ts.tail).bind fun (x,t1)=>bBt n (N++[x.1]) (V++[x.2]) t1) else some ((N,V),ts)
def aVr (N:List Wd):Nat->List SetT->List Tok->Option (List SetT × List Tok)
 | 0,_,_=>none
 | n+1,L,ts=>(aFb T N ts).bind fun (x,t1)=>(aAg T [58,61] t1).bind fun t2=>(aC9 T N 100 .choice t2).bind fun (e,t3) =>
   match aAg T [44] t3 with
   | some t4=>aVr N n (L++[⟨(x:Int),e⟩]) t4
   | none=>some (L++[⟨(x:Int),e⟩],t3)
def bMj (N taken:List Wd) (ts:List Tok):Option ((Wd × Rule) × List Tok) :=
 (aKi T taken ts).bind fun (x,t1)=>(aAg T [58] t1).bind fun t2=>(aC9 T N 100 .choice t2).bind fun (c,t3)=>(aAg T [45,62] t3).bind fun t4 =>
  (aVr T N 10 [] t4).bind fun (L,t5)=>(aAg T [59] t5).bind fun t6=>some ((x,⟨ba x,c,L⟩),t6)
def aN4 (N:List Wd):Nat->List Wd->List Rule->List Tok->Option (List Rule × List Tok)
 | 0,_,_,_=>none
 | n+1,K,R,ts=>if aB8 T ts=[114,117,108,101] then (if R.length=12 then none else (bMj T N K ts.tail).bind fun (x,t1)=>aN4 N n (K++[x.1]) (R++[x.2]) t1) else some (R,ts)
def bKd (ts:List Tok):Option Prg :=
 (aAg T [112,114,111,103,114,97,109] ts).bind fun t1=>(aKi T [] t1).bind fun (x,t2)=>(aAg T [59] t2).bind fun t3=>(bBt T 10 [] [] t3).bind fun (NV,t4)=>(aN4 T NV.1 20 [] [] t4).bind fun (R,t5) =>
  if t5=[] then some ⟨ba x,NV.2,R⟩ else none
end
def toK (x:Nat × Int):Nat:=x.2.toNat
def aA7 (s:List (List (Nat × Int))) (k:Nat):List (Nat × Int):=s.getD k []
def aP9 (L:List Nat) (l:List (Nat × Int)):Nat:=l.countP fun x=>decide (toK x∈L)
def aF8 (s:List (List (Nat × Int))) (n t:Nat):List Nat:=(List.range n).flatMap fun k=>((aA7 s k).filter fun x=>toK x==t).map fun _=>k
theorem aKm (s:List (List (Nat × Int))) (t k:Nat):∀ n,(aF8 s n t).count k=if k<n then (aA7 s k).countP (fun x=>toK x==t) else 0
 | 0=>by simp [aF8]
 | n+1=>by
  have ih:=aKm s t k n;unfold aF8 at *;rw [List.range_succ,List.flatMap_append,List.count_append,ih];simp only [List.flatMap_cons,List.flatMap_nil,List.append_nil]
  rw [show (List.map (fun _=>n) ((aA7 s n).filter fun x=>toK x==t))=List.replicate ((aA7 s n).countP (fun x=>toK x==t)) n by rw [List.map_const',List.countP_eq_length_filter],List.count_replicate]
  by_cases h:k=n
  .subst h;simp
  .have:(n==k)=false:=by simp;omega
   rw [this]
   by_cases h2:k<n
   .simp [h2,show k<n+1 by omega]
   .simp [h2,show ¬ k<n+1 by omega]
theorem bJu {s:List (List (Nat × Int))} {n t k:Nat} (h:k∈aF8 s n t):k<n:=by
 unfold aF8 at h;rw [List.mem_flatMap] at h;obtain ⟨j,hj,hk⟩:=h;rw [List.mem_range] at hj;obtain ⟨_,_,rfl⟩:=List.mem_map.1 hk;exact hj
theorem aPk (L:List Nat) (l:List (Nat × Int)):aP9 L l<=l.length:=List.countP_le_length
theorem bHd (l:List (Nat × Int)):aP9 [] l=0:=by unfold aP9;simp
theorem aSq {L:List Nat} {x:Nat} (hx:x ∉ L) (l:List (Nat × Int)):aP9 (L++[x]) l=aP9 L l+l.countP (fun a=>toK a==x):=by
 unfold aP9
 induction l with
 | nil=>rfl
 | cons a l ih =>
  rw [List.countP_cons,List.countP_cons,List.countP_cons,ih]
  have e1:decide (toK a∈L++[x])=(decide (toK a∈L)||(toK a==x)):=by
   rw [Bool.eq_iff_iff];simp
  rw [e1]
  by_cases h:toK a=x
  .rw [h];simp [hx];omega
  .simp [h];omega
theorem bE9 {L:List Nat} {l:List (Nat × Int)} (h:l.length<=aP9 L l):∀ a∈l,toK a∈L:=by
 have:=List.countP_eq_length.1 (Nat.le_antisymm (aPk L l) h);intro a ha
 simpa using this a ha
theorem aRw:∀ {l1 l2:List Nat},l1.Nodup->(∀ x∈l1,x∈l2)->l1.length<=l2.length
 | [],_,_,_=>by simp
 | x :: l1,l2,hn,h=>by
  rw [List.nodup_cons] at hn;have hx:x∈l2:=h x (by simp)
  have h1:=aRw (l2:=l2.erase x) hn.2 (fun y hy=>by
   have hne:y≠x:=fun e=>hn.1 (e ▸ hy)
   exact (List.mem_erase_of_ne hne).2 (h y (by simp [hy])))
  rw [List.length_erase_of_mem hx] at h1;have:=List.length_pos_of_mem hx;simp;omega
theorem aR8 {n:Nat} {l:List Nat} (hn:l.Nodup) (h:∀ x∈l,x<n):l.length<=n:=by
 have:=aRw (l2:=List.range n) hn (fun x hx=>by simpa using h x hx)
 simpa using this
structure OrdJ (s:List (List (Nat × Int))) (set:List Bool) (n i m:Nat) (o e:List Nat):Prop where
 le:i<=o.length
 nd:o.Nodup
 lt:∀ k∈o,k<n
 el:e.length=n
 m0:m=0∨i<o.length
 ml:m<=(aF8 s n (o.getD i 0)).length
 ec:∀ k,k<n->e.getD k 0=aP9 (o.take i) (aA7 s k)+((aF8 s n (o.getD i 0)).take m).count k
 hs:∀ k,k<n->set.getD k false=true->k∈o
 hn:∀ k,k<n->set.getD k false=false->(k∈o↔0<(aA7 s k).length/\e.getD k 0=(aA7 s k).length)
 tp:∀ j (hj:j<o.length),set.getD o[j] false=false->∀ a∈aA7 s o[j],toK a∈o.take j
structure OrdP (s:List (List (Nat × Int))) (set:List Bool) (n:Nat) (o:List Nat):Prop where
 nd:o.Nodup
 lt:∀ k∈o,k<n
 hs:∀ k,k<n->set.getD k false=true->k∈o
 tp:∀ j (hj:j<o.length),set.getD o[j] false=false->∀ a∈aA7 s o[j],toK a∈o.take j
 mx:∀ k,k<n->k ∉ o->set.getD k false=false/\((aA7 s k).length=0∨∃ a∈aA7 s k,toK a ∉ o)
theorem OrdJ.len {s:List (List (Nat × Int))} {set:List Bool} {n i m:Nat} {o e:List Nat} (h:OrdJ s set n i m o e):o.length<=n:=aR8 h.nd h.lt
theorem OrdP.len {s:List (List (Nat × Int))} {set:List Bool} {n:Nat} {o:List Nat} (h:OrdP s set n o):o.length<=n:=aR8 h.nd h.lt
theorem OrdJ.step {s:List (List (Nat × Int))} {set:List Bool} {n i m:Nat} {o e:List Nat} (h:OrdJ s set n i m o e) (hi:i<o.length) (hm:m<(aF8 s n (o.getD i 0)).length)
  {k:Nat} (hk:(aF8 s n (o.getD i 0))[m]=k) {o':List Nat} (ho:o'=if set.getD k false=false/\e.getD k 0+1=(aA7 s k).length then o++[k] else o) :
  OrdJ s set n i (m+1) o' (e.set k (e.getD k 0+1)):=by
 have hkn:k<n:=by rw [<- hk];exact bJu (List.getElem_mem hm)
 have hx:o.getD i 0=o[i]:=by simp [List.getD_eq_getElem?_getD,hi]
 have hxn:o[i] ∉ o.take i:=by
  intro hmem
  obtain ⟨j,hj,hje⟩:=List.mem_take_iff_getElem.1 hmem;have:=(List.pairwise_iff_getElem.1 (List.nodup_iff_pairwise_ne.1 h.nd)) j i (by omega) hi (by omega)
  exact this hje
 have htk:o.take (i+1)=o.take i++[o[i]]:=List.take_succ_eq_append_getElem hi
 have hcnt:∀ q,((aF8 s n (o.getD i 0)).take (m+1)).count q=((aF8 s n (o.getD i 0)).take m).count q+(if k=q then 1 else 0):=by
  intro q
  rw [List.take_succ_eq_append_getElem hm,List.count_append,hk];simp [List.count_cons]
 have hle:∀ q,q<n->((aF8 s n (o.getD i 0)).take (m+1)).count q<=(aA7 s q).countP (fun a=>toK a==o[i]):=by
  intro q hq
  have h1:((aF8 s n (o.getD i 0)).take (m+1)).count q<=(aF8 s n (o.getD i 0)).count q:=List.Sublist.count_le _ (List.take_sublist _ _);rw [aKm,if_pos hq,hx] at h1;rw [hx] at *;exact h1
 have hek:e.getD k 0+1<=aP9 (o.take (i+1)) (aA7 s k):=by
  rw [htk,aSq hxn];have h1:=h.ec k hkn;have h2:=hle k hkn;have h3:=hcnt k;rw [if_pos rfl] at h3;omega
 have hek2:e.getD k 0+1<=(aA7 s k).length:=Nat.le_trans hek (aPk _ _)
 have hset:∀ q,q<n->(e.set k (e.getD k 0+1)).getD q 0=if q=k then e.getD k 0+1 else e.getD q 0:=by
  intro q hq
  have he:=h.el;simp only [List.getD_eq_getElem?_getD,List.getElem?_set]
  by_cases h1:k=q
  .subst h1;simp [he,hkn]
  .rw [if_neg h1,if_neg (by omega)]
 have hnot:set.getD k false=false->k ∉ o:=by
  intro hs hmem
  have:=(h.hn k hkn hs).1 hmem;omega
 have hsub:o'.take i=o.take i/\o'.getD i 0=o.getD i 0/\o.length<=o'.length:=by
  rw [ho];split
  .refine ⟨List.take_append_of_le_length (by omega),?_,by simp⟩
   simp [List.getD_eq_getElem?_getD,List.getElem?_append_left hi]
  .exact ⟨rfl,rfl,Nat.le_refl _⟩
 obtain ⟨hs1,hs2,hs3⟩:=hsub;refine ⟨by have:=h.le;omega,?_,?_,by simp [h.el],.inr (by omega),by rw [hs2];exact hm,?_,?_,?_,?_⟩
 .rw [ho];split
  .rename_i hc
   rw [List.nodup_append];refine ⟨h.nd,by simp,?_⟩
   intro a ha b hb
   simp at hb;subst hb
   rintro rfl;exact hnot hc.1 ha
  .exact h.nd
 .intro q hq
  rw [ho] at hq;split at hq
  .rcases List.mem_append.1 hq with hq | hq
   .exact h.lt q hq
   .simp at hq;subst hq;exact hkn
  .exact h.lt q hq
 .intro q hq
  rw [hs1,hs2,hset q hq,hcnt q];have:=h.ec q hq
  by_cases h1:q=k
  .subst h1;rw [if_pos rfl,if_pos rfl];omega
  .rw [if_neg h1,if_neg (fun e=>h1 e.symm)];omega
 .intro q hq hs
  have:=h.hs q hq hs;rw [ho];split
  .exact List.mem_append_left _ this
  .exact this
 .intro q hq hs
  rw [hset q hq]
  by_cases h1:q=k
  .subst h1
   rw [if_pos rfl,ho]
   by_cases hc:e.getD q 0+1=(aA7 s q).length
   .rw [if_pos ⟨hs,hc⟩]
    exact ⟨fun _=>⟨by omega,hc⟩,fun _=>by simp⟩
   .rw [if_neg (fun hh=>hc hh.2)]
    constructor
    .intro hm;exact absurd hm (hnot hs)
    .intro hh;exact absurd hh.2 hc
  .rw [if_neg h1,<- h.hn q hq hs,ho]
   split
   .simp [h1]
   .exact Iff.rfl
 .intro j hj hs a ha
  by_cases hjo:j<o.length
  .have e1:o'[j]=o[j]:=by
    simp only [ho];split
    .exact List.getElem_append_left hjo
    .rfl
   have e2:o'.take j=o.take j:=by
    rw [ho];split
    .exact List.take_append_of_le_length (by omega)
    .rfl
   rw [e1] at hs ha;rw [e2];exact h.tp j hjo hs a ha
  .by_cases hc:set.getD k false=false/\e.getD k 0+1=(aA7 s k).length
   .rw [if_pos hc] at ho
    subst ho;have hj':j=o.length:=by simp at hj;omega
    subst hj';simp at ha hs
    rw [List.take_append_of_le_length (Nat.le_refl _),List.take_length];have:=bE9 (L:=o.take (i+1)) (l:=aA7 s k) (by omega) a ha
    exact List.mem_of_mem_take this
   .rw [if_neg hc] at ho
    subst ho;exact absurd hj hjo
theorem OrdJ.next {s:List (List (Nat × Int))} {set:List Bool} {n i m:Nat} {o e:List Nat} (h:OrdJ s set n i m o e) (hi:i<o.length) (hm:m=(aF8 s n (o.getD i 0)).length):OrdJ s set n (i+1) 0 o e:=by
 have hx:o.getD i 0=o[i]:=by simp [List.getD_eq_getElem?_getD,hi]
 have hxn:o[i] ∉ o.take i:=by
  intro hmem
  obtain ⟨j,hj,hje⟩:=List.mem_take_iff_getElem.1 hmem;have:=(List.pairwise_iff_getElem.1 (List.nodup_iff_pairwise_ne.1 h.nd)) j i (by omega) hi (by omega)
  exact this hje
 refine ⟨hi,h.nd,h.lt,h.el,.inl rfl,Nat.zero_le _,?_,h.hs,h.hn,h.tp⟩
 intro k hk
 rw [List.take_succ_eq_append_getElem hi,aSq hxn,h.ec k hk,hm,List.take_length,aKm,if_pos hk,hx];simp
theorem OrdJ.fin {s:List (List (Nat × Int))} {set:List Bool} {n i m:Nat} {o e:List Nat} (h:OrdJ s set n i m o e) (hi:i=o.length):OrdP s set n o:=by
 subst hi;refine ⟨h.nd,h.lt,h.hs,h.tp,fun k hk hko=>?_⟩
 have hs:set.getD k false=false:=by
  cases hc:set.getD k false with
  | false=>rfl
  | true=>exact absurd (h.hs k hk hc) hko
 refine ⟨hs,?_⟩
 by_cases h0:(aA7 s k).length=0
 .exact .inl h0
 .right
  have he:=h.ec k hk;have hm0:m=0:=by rcases h.m0 with h1 | h1 <;> omega
  subst hm0;rw [List.take_zero,List.take_length] at he;simp at he
  have hlt:aP9 o (aA7 s k)<(aA7 s k).length:=by
   have h1:=aPk o (aA7 s k);have h2:¬ (0<(aA7 s k).length/\e.getD k 0=(aA7 s k).length):=fun hh=>hko ((h.hn k hk hs).2 hh);have:e.getD k 0=aP9 o (aA7 s k):=by simpa [List.getD_eq_getElem?_getD] using he
   omega
  by_cases hall:∀ a∈aA7 s k,toK a∈o
  .have:aP9 o (aA7 s k)=(aA7 s k).length:=List.countP_eq_length.2 (fun a ha=>by simpa using hall a ha)
   omega
  .simpa using hall
theorem OrdJ.start (s:List (List (Nat × Int))) (set:List Bool) (n:Nat):OrdJ s set n 0 0 ((List.range n).filter fun k=>set.getD k false) (List.replicate n 0):=by
 refine ⟨Nat.zero_le _,List.nodup_range.filter _,?_,by simp,.inl rfl,Nat.zero_le _,?_,?_,?_,?_⟩
 .intro k hk
  have:=(List.mem_filter.1 hk).1;simpa using this
 .intro k hk
  simp [bHd,List.getD_eq_getElem?_getD,hk]
 .intro k hk hs
  rw [List.mem_filter];exact ⟨by simpa using hk,hs⟩
 .intro k hk hs
  constructor
  .intro hm
   have:=(List.mem_filter.1 hm).2;rw [hs] at this;cases this
  .rintro ⟨h1,h2⟩
   have:(List.replicate n 0).getD k 0=0:=by simp [List.getD_eq_getElem?_getD,hk]
   omega
 .intro j hj hs
  have:=(List.mem_filter.1 (List.getElem_mem hj)).2;rw [hs] at this;cases this
theorem OrdP.all {s:List (List (Nat × Int))} {set:List Bool} {n:Nat} {o:List Nat} (h:OrdP s set n o) (f:Nat->Int) (h0:∀ k,k<n->0<=f k) (hp:∀ k,k<n->set.getD k false=false->0<(aA7 s k).length)
  (hd:∀ k,k<n->set.getD k false=false->∀ a∈aA7 s k,toK a<n/\f (toK a)<f k):∀ k,k<n->k∈o:=by
 have key:∀ (m:Nat) (k:Nat),k<n->f k<m->k∈o:=by
  intro m
  induction m with
  | zero=>intro k hk hf;have:=h0 k hk;omega
  | succ m ih =>
   intro k hk hf
   by_cases hko:k∈o
   .exact hko
   .obtain ⟨hs,hc⟩:=h.mx k hk hko
    rcases hc with hc | ⟨a,ha,hn⟩
    .have:=hp k hk hs;omega
    .obtain ⟨h1,h2⟩:=hd k hk hs a ha
     exact absurd (ih (toK a) h1 (by omega)) hn
 intro k hk
 have:=h0 k hk;exact key ((f k).toNat+1) k hk (by omega)
theorem bCk {n:Nat} {o:List Nat} (h:∀ k,k<n->k∈o):n<=o.length:=by
 have:=aRw (l1:=List.range n) List.nodup_range (fun x hx=>h x (by simpa using hx))
 simpa using this
theorem OrdP.none {s:List (List (Nat × Int))} {set:List Bool} {n:Nat} {o:List Nat} (h:OrdP s set n o) (X:Nat->Prop) (hX:∀ k,X k->set.getD k false=false/\∃ a∈aA7 s k,X (toK a)):∀ k,X k->k ∉ o:=by
 have key:∀ j (hj:j<o.length),¬ X o[j]:=by
  intro j
  induction j using Nat.strongRecOn with
  | _ j ih =>
   intro hj hx
   obtain ⟨hs,a,ha,hxa⟩:=hX _ hx;obtain ⟨i,hi,he⟩:=List.mem_take_iff_getElem.1 (h.tp j hj hs a ha);exact ih i (by omega) (by omega) (by rw [he];exact hxa)
 intro k hx hko
 obtain ⟨j,hj,rfl⟩:=List.getElem_of_mem hko;exact key j hj hx
abbrev Pr:=Nat × Nat
structure QuP (set:List Bool) (n:Nat) (G:Nat->Nat->Prop) (Q:List Pr):Prop where
 nd:Q.Nodup
 lt:∀ x∈Q,x.1<n/\x.2<16/\set.getD x.1 false=false/\G x.1 x.2
theorem QuP.nil (set:List Bool) (n:Nat) (G:Nat->Nat->Prop):QuP set n G []:=⟨List.nodup_nil,fun x h=>by cases h⟩
theorem QuP.len {set:List Bool} {n:Nat} {G:Nat->Nat->Prop} {Q:List Pr} (h:QuP set n G Q):Q.length<=16*n:=by
 have h1:(Q.map fun x=>16*x.1+x.2).Nodup:=by
  rw [List.nodup_iff_pairwise_ne,List.pairwise_map];refine List.Pairwise.imp_of_mem ?_ (List.nodup_iff_pairwise_ne.1 h.nd)
  intro a b ha hb hne he
  obtain ⟨_,a2,_⟩:=h.lt a ha;obtain ⟨_,b2,_⟩:=h.lt b hb;refine hne (Prod.ext ?_ ?_) <;> omega
 have:=aR8 (n:=16*n) h1 (fun x hx=>by
  obtain ⟨a,ha,rfl⟩:=List.mem_map.1 hx;obtain ⟨a1,a2,_⟩:=h.lt a ha
  omega)
 simpa using this
theorem QuP.push {set:List Bool} {n:Nat} {G:Nat->Nat->Prop} {Q:List Pr} (h:QuP set n G Q) {x:Pr} (hx:x ∉ Q) (h1:x.1<n) (h2:x.2<16) (h3:set.getD x.1 false=false) (h4:G x.1 x.2):QuP set n G (Q++[x]):=by
 refine ⟨?_,fun y hy=>?_⟩
 .rw [List.nodup_append]
  refine ⟨h.nd,by simp,?_⟩
  intro a ha b hb
  simp at hb;subst hb
  rintro rfl;exact hx ha
 .rcases List.mem_append.1 hy with hy | hy
  .exact h.lt y hy
  .simp at hy;subst hy;exact ⟨h1,h2,h3,h4⟩
def aJ0 (Q:List Pr) (i k:Nat):List Nat:=((Q.take i).filter fun x=>x.1==k).map (·.2)
theorem bFl (Q:List Pr) (k:Nat):aJ0 Q 0 k=[]:=by simp [aJ0]
theorem aT2 {Q:List Pr} {i:Nat} (hi:i<Q.length) (k:Nat):aJ0 Q (i+1) k=if Q[i].1=k then aJ0 Q i k++[Q[i].2] else aJ0 Q i k:=by
 unfold aJ0;rw [List.take_succ_eq_append_getElem hi,List.filter_append,List.map_append]
 by_cases h:Q[i].1=k
 .rw [if_pos h];simp [h]
 .rw [if_neg h];simp [h]
theorem aYq (Q:List Pr) (i k:Nat):(aJ0 Q i k).length<=i:=by
 unfold aJ0;rw [List.length_map];exact Nat.le_trans (List.length_filter_le _ _) (by rw [List.length_take];omega)
theorem QuP.pend {set:List Bool} {n:Nat} {G:Nat->Nat->Prop} {Q:List Pr} (h:QuP set n G Q) {i k S:Nat} (hS:S∈aJ0 Q i k):k<n/\S<16/\set.getD k false=false/\G k S:=by
 unfold aJ0 at hS;obtain ⟨x,hx,rfl⟩:=List.mem_map.1 hS;obtain ⟨h1,h2⟩:=List.mem_filter.1 hx;have h3:=h.lt x (List.mem_of_mem_take h1);have:x.1=k:=by simpa using h2
 subst this;exact h3
def aEp (S T E:Nat):Nat:=if aCg S T&&&E=0 then E else aCg S T&&&E
def aS8 (S T E:Nat):Bool:=decide (aCg S T&&&E=0)
theorem aWc {S T E:Nat} (hE:E<16):aEp S T E<16:=by
 unfold aEp;split
 .exact hE
 .exact Nat.lt_of_le_of_lt Nat.and_le_right hE
structure RndP (A:List (List (Nat × Int))) (E:List Nat) (set:List Bool) (n:Nat) (G:Nat->Nat->Prop) (f:Nat->Nat->Int):Prop where
 start:∀ k,k<n->set.getD k false=false->G k (E.getD k 0)
 go:∀ k S,k<n->S<16->set.getD k false=false->G k S->∀ a∈aA7 A k,set.getD (toK a) false=false->G (toK a) (aEp S a.1 (E.getD (toK a) 0)) /\
  (if aS8 S a.1 (E.getD (toK a) 0) then 1+f (toK a) (aEp S a.1 (E.getD (toK a) 0))<=f k S else f (toK a) (aEp S a.1 (E.getD (toK a) 0))<=f k S)
 pos:∀ k S,k<n->S<16->set.getD k false=false->G k S->1<=f k S/\f k S<=1000
structure CostP (A:List (List (Nat × Int))) (set:List Bool) (n:Nat) (cost:Nat × Int->Int) (f:Nat->Int):Prop where
 go:∀ k,k<n->set.getD k false=false->∀ a∈aA7 A k,0<=cost a/\cost a+f (toK a)<=f k
 pos:∀ k,k<n->0<=f k/\f k<=1000
def aA5 (s:ByteArray):List UInt8:=s.data.toList
theorem aAv (s:ByteArray):(aA5 s).length=s.size:=by unfold aA5;simp
theorem aCb (s:ByteArray) {k:Nat} (h:k<s.size):(aA5 s).drop k=s[k] :: (aA5 s).drop (k+1):=by
 rw [List.drop_eq_getElem_cons (by rw [aAv];exact h)];rfl
theorem aK9 (s:ByteArray) {k:Nat} (h:s.size<=k):(aA5 s).drop k=[]:=List.drop_eq_nil_of_le (by rw [aAv];exact h)
theorem bK5 (c d:UInt8) (n:Nat) (h:d.toNat=n):(c==d)=((c.toNat:Int)==(n:Int)):=by
 rw [Bool.eq_iff_iff,beq_iff_eq,beq_iff_eq,<- UInt8.toNat_inj,h];omega
theorem aNz (c:UInt8):aJh c=aHg c:=by
 unfold aJh aHg;rw [Bool.eq_iff_iff];simp
 omega
theorem aX2 (c:UInt8):aEr c=aQj c:=by
 unfold aEr aQj;rw [Bool.eq_iff_iff];simp
 omega
theorem aSu (c:UInt8):aEc c=aF0 c:=by
 unfold aEc aF0;rw [aNz,aX2]
 congr 1
 rw [Bool.eq_iff_iff];simp;omega
theorem aVu:∀ (l:List UInt8) (k:Nat),k<=aHx l k/\aHx l k<=k+l.length
 | [],k=>by simp [aHx]
 | c :: l,k=>by
  unfold aHx;split
  .have:=aVu l (k+1);simp;omega
  .simp
theorem aGx (f:UInt8->Bool):∀ (l:List UInt8) (k:Nat),k<=aD1 f l k/\aD1 f l k<=k+l.length
 | [],k=>by simp [aD1]
 | c :: l,k=>by
  unfold aD1;split
  .have:=aGx f l (k+1);simp;omega
  .simp
theorem bDk (T:ByteArray) (k:Nat) (w:World) (hk:k<=T.size) (hT:T.size<=1000000) (hc:∀ j (h:j<T.size),T[j].toNat≠35) :
  Calls prog 52 #[.string T,.int .i64 k] w fun e w'=>e = .returned (.int .i64 (aHx ((aA5 T).drop k) k:Nat))/\w=w':=by
 have HC:=aA0 hc;clear hc;go_enter func52,ntmps52;go_wp2
 go_loopg [1] (T.size-k) (fun m z wr=>∃ j:Nat,j<=T.size/\m=T.size-j/\Hid (aHx ((aA5 T).drop k) k=aHx ((aA5 T).drop j) j)/\z = .int .i64 j/\w=wr)
 case atStart=>exact ⟨k,hk,rfl,rfl,rfl,rfl⟩
 case round =>
  obtain ⟨j,hj,rfl,HK,rfl,rfl⟩:=hrel
  by_cases hlt:j<T.size
  .have hd0:decide (j<T.size)=true:=by simpa using hlt
   have HS:=aA0 (aCb T hlt);have HN:=aA0 (HC.out j hlt);obtain ⟨c,hcc⟩:∃ c,T[j]=c:=⟨_,rfl⟩;rw [hcc] at HS HN
   have HB:Hid (aSo c=(((c.toNat:Int)==32)||((c.toNat:Int)==9)||((c.toNat:Int)==10)||((c.toNat:Int)==13))):=by
    show aSo c=_
    unfold aSo;rw [bK5 c 32 32 rfl,bK5 c 9 9 rfl,bK5 c 10 10 rfl,bK5 c 13 13 rfl];rfl
   have hn35:((c.toNat:Int)==35)=false:=by simp;have:=HN.out;omega
   go_wp2
   all_goals first
    | (have hb : aSo c = true := by (rw [HB.out]; simp [*]; done)
       have HG:Hid (aHx ((aA5 T).drop k) k=aHx ((aA5 T).drop (j+1)) (j+1)):=by
        show _=_
        rw [HK.out,HS.out];simp only [aHx];rw [if_pos hb]
       go_roundg (T.size-(j+1))
       case rel=>exact ⟨j+1,by omega,rfl,HG,by go_num,rfl⟩
       case measure=>omega)
    | (have hb : aSo c = false := by (rw [HB.out]; simp [*]; done)
       go_ret;refine ⟨?_,rfl⟩
       rw [HK.out,HS.out];simp only [aHx];rw [if_neg (by rw [hb];simp)];rfl)
  .have hd0:decide (j<T.size)=false:=by simpa using hlt
   go_wp2;go_ret;refine ⟨?_,rfl⟩
   rw [HK.out,aK9 T (by omega)]
   have:j=T.size:=by omega
   rfl
theorem aZd (f:FuncId) (p:UInt8->Bool) (hf:∀ (c:UInt8) w,Calls prog f #[.int .u8 (c.toNat:Int)] w fun e w'=>e = .returned (.bool (p c))/\w=w') (hcall:∀ a w,(callFunc f #[a]).run prog w = .ok (.enter f #[a]) w)
  (T:ByteArray) (k:Nat) (b1 b2:Nat) (w:World) (hk:k<=T.size) (hT:T.size<=1000000) (h1:w.cell? ⟨b1,0,none⟩=some (.int .i64 (k:Int))) (h2:w.cell? ⟨b2,0,none⟩=some (.string T)) :
  Calls prog 97 #[.func (.func f) #[] #[],.pointer (some ⟨b1,0,none⟩),.pointer (some ⟨b2,0,none⟩)] w fun e w'=>e = .returned (.int .i64 (aD1 p ((aA5 T).drop k) k:Nat))/\w=w':=by
 have HF:=aA0 hf;clear hf;go_enter func97,ntmps97
 go_wp2_with fail
 go_loopg [5] (T.size-k) (fun m z wr=>∃ j:Nat,j<=T.size/\m=T.size-j/\Hid (aD1 p ((aA5 T).drop k) k=aD1 p ((aA5 T).drop j) j)/\z = .int .i64 j/\w=wr)
 case atStart=>exact ⟨k,hk,rfl,rfl,rfl,rfl⟩
 case round =>
  obtain ⟨j,hj,rfl,HK,rfl,rfl⟩:=hrel
  by_cases hlt:j<T.size
  .have hd0:decide (j<T.size)=true:=by simpa using hlt
   have HS:=aA0 (aCb T hlt);cases hp:p T[j] with
   | true =>
    have HG:Hid (aD1 p ((aA5 T).drop k) k=aD1 p ((aA5 T).drop (j+1)) (j+1)):=by
     show _=_
     rw [HK.out,HS.out];simp only [aD1];rw [if_pos hp]
    go_wp2_with ((with_reducible refine (HF.out _ _).mono ?_);rintro e w' ⟨rfl,rfl⟩;rw [hp])
    go_roundg (T.size-(j+1))
    case rel=>exact ⟨j+1,by omega,rfl,HG,by go_num,rfl⟩
    case measure=>omega
   | false =>
    have HG:Hid (aD1 p ((aA5 T).drop k) k=j):=by
     show _=_
     rw [HK.out,HS.out];simp only [aD1];rw [if_neg (by rw [hp];simp)]
    go_wp2_with ((with_reducible refine (HF.out _ _).mono ?_);rintro e w' ⟨rfl,rfl⟩;rw [hp])
    go_ret;exact ⟨aA9 (by rw [HG.out]),rfl⟩
  .have hd0:decide (j<T.size)=false:=by simpa using hlt
   go_wp2_with fail
   go_ret;refine ⟨aA9 ?_,rfl⟩
   rw [HK.out,aK9 T (by omega)]
   rfl
theorem aQk {c:UInt8} (h:aEr c=true):48<=(c.toNat:Int)/\(c.toNat:Int)<=57:=by
 unfold aEr at h;simp at h;omega
theorem bFe (D:ByteArray) (r:Nat) (w:World) (h0:0<D.size) (hT:D.size<=1000000) (hd:∀ c∈aA5 D,aEr c=true) (h:aRa (aA5 D)=some r) :
  Calls prog 101 #[.string D] w fun e w'=>e = .returned (.tuple #[.int .i64 (r:Int),.bool true])/\w=w':=by
 have HS:=aA0 (aCb D h0)
 have HN:Hid (((((D[0].toNat:Int)==48)&&decide (1<(D.size:Int)))=false)/\aMw (aA5 D) 0=some r):=by
  show _/\_
  have e:aA5 D=D[0] :: (aA5 D).drop 1:=by have:=HS.out;simpa using this
  rw [e,show ∀ c l,aRa (c :: l)=if c==48&&0<l.length then none else aMw (c :: l) 0 from fun _ _=>rfl] at h
  split at h
  .cases h
  .rename_i hn
   refine ⟨?_,by rw [e];exact h⟩
   rw [bK5 D[0] 48 48 rfl] at hn;have hl:((aA5 D).drop 1).length=D.size-1:=by rw [List.length_drop,aAv]
   rw [hl] at hn;rw [Bool.and_eq_true] at hn;rw [Bool.eq_false_iff,ne_eq,Bool.and_eq_true];intro hx
   refine hn ⟨hx.1,?_⟩
   have:=hx.2;simp at this ⊢
   omega
 have HD:=aA0 hd;clear h hd;have hc:=HN.out.1;have hI:decide (1<(D.size:Int))=decide (1<D.size):=by rw [Bool.eq_iff_iff];simp;omega
 rw [hI] at hc;cases hz:((D[0].toNat:Int)==48) with
 | true =>
  rw [hz] at hc;have h1:decide (1<D.size)=false:=hc;go_enter func101,ntmps101;go_wp2
  go_loopg [4,5,16] D.size (fun m y _x z wr=>∃ (j v:Nat),j<=D.size/\m=D.size-j/\v<=1073741824/\Hid (aMw ((aA5 D).drop j) v=some r)/\y = .int .i64 v/\z = .int .i64 j/\w=wr)
  case atStart=>exact ⟨0,0,by omega,rfl,by omega,HN.out.2,rfl,rfl,rfl⟩
  case round =>
   obtain ⟨j,v,hj,rfl,hv,HK,rfl,rfl,rfl⟩:=hrel
   by_cases hlt:j<D.size
   .have hd0:decide (j<D.size)=true:=by simpa using hlt
    obtain ⟨d1,d2⟩:=aQk (HD.out D[j] (by
     have:=aCb D hlt
     exact List.mem_of_mem_drop (i:=j) (by rw [this];exact List.mem_cons_self)))
    have HG:Hid (10*v+(D[j].toNat-48)<=1073741824/\aMw ((aA5 D).drop (j+1)) (10*v+(D[j].toNat-48))=some r):=by
     show _/\_
     have h:=HK.out;rw [aCb D hlt,show ∀ c l v,aMw (c :: l) v=if 10*v+(c.toNat-48)<=1073741824 then aMw l (10*v+(c.toNat-48)) else none from fun _ _ _=>rfl] at h
     split at h
     .rename_i hle;exact ⟨hle,h⟩
     .cases h
    obtain ⟨n,hn⟩:∃ n,10*v+(D[j].toNat-48)=n:=⟨_,rfl⟩;rw [hn] at HG;have HV:=HG.out.1;have e1:IntKind.i64.wrap (10*(v:Int))=10*(v:Int):=IntWalk.i64_in _ (by omega)
    have e2:IntKind.u8.wrap ((D[j].toNat:Int)-48)=(D[j].toNat:Int)-48:=IntWalk.u8_in _ (by omega)
    have e3:IntKind.i64.wrap ((D[j].toNat:Int)-48)=(D[j].toNat:Int)-48:=IntWalk.i64_in _ (by omega)
    have e4:IntKind.i64.wrap (10*(v:Int)+((D[j].toNat:Int)-48))=(n:Int):=by rw [IntWalk.i64_in _ (by omega)];omega
    clear hn;have d4:decide ((1073741824:Int)<(n:Int))=false:=by simp;omega
    go_wp2
    go_roundg (D.size-(j+1))
    case rel=>exact ⟨j+1,n,by omega,rfl,HV,HG.out.2,rfl,by go_num,rfl⟩
    case measure=>omega
   .have hd0:decide (j<D.size)=false:=by simpa using hlt
    go_wp2
    go_ret2
    have h:=HK.out;rw [aK9 D (by omega)] at h
    have:v=r:=by simpa [aMw] using h
    subst this;exact ⟨rfl,rfl⟩
 | false =>
  go_enter func101,ntmps101;go_wp2
  go_loopg [4,5,16] D.size (fun m y _x z wr=>∃ (j v:Nat),j<=D.size/\m=D.size-j/\v<=1073741824/\Hid (aMw ((aA5 D).drop j) v=some r)/\y = .int .i64 v/\z = .int .i64 j/\w=wr)
  case atStart=>exact ⟨0,0,by omega,rfl,by omega,HN.out.2,rfl,rfl,rfl⟩
  case round =>
   obtain ⟨j,v,hj,rfl,hv,HK,rfl,rfl,rfl⟩:=hrel
   by_cases hlt:j<D.size
   .have hd0:decide (j<D.size)=true:=by simpa using hlt
    obtain ⟨d1,d2⟩:=aQk (HD.out D[j] (by
     have:=aCb D hlt
     exact List.mem_of_mem_drop (i:=j) (by rw [this];exact List.mem_cons_self)))
    have HG:Hid (10*v+(D[j].toNat-48)<=1073741824/\aMw ((aA5 D).drop (j+1)) (10*v+(D[j].toNat-48))=some r):=by
     show _/\_
     have h:=HK.out;rw [aCb D hlt,show ∀ c l v,aMw (c :: l) v=if 10*v+(c.toNat-48)<=1073741824 then aMw l (10*v+(c.toNat-48)) else none from fun _ _ _=>rfl] at h
     split at h
     .rename_i hle;exact ⟨hle,h⟩
     .cases h
    obtain ⟨n,hn⟩:∃ n,10*v+(D[j].toNat-48)=n:=⟨_,rfl⟩;rw [hn] at HG;have HV:=HG.out.1;have e1:IntKind.i64.wrap (10*(v:Int))=10*(v:Int):=IntWalk.i64_in _ (by omega)
    have e2:IntKind.u8.wrap ((D[j].toNat:Int)-48)=(D[j].toNat:Int)-48:=IntWalk.u8_in _ (by omega)
    have e3:IntKind.i64.wrap ((D[j].toNat:Int)-48)=(D[j].toNat:Int)-48:=IntWalk.i64_in _ (by omega)
    have e4:IntKind.i64.wrap (10*(v:Int)+((D[j].toNat:Int)-48))=(n:Int):=by rw [IntWalk.i64_in _ (by omega)];omega
    clear hn;have d4:decide ((1073741824:Int)<(n:Int))=false:=by simp;omega
    go_wp2
    go_roundg (D.size-(j+1))
    case rel=>exact ⟨j+1,n,by omega,rfl,HV,HG.out.2,rfl,by go_num,rfl⟩
    case measure=>omega
   .have hd0:decide (j<D.size)=false:=by simpa using hlt
    go_wp2
    go_ret2
    have h:=HK.out;rw [aK9 D (by omega)] at h
    have:v=r:=by simpa [aMw] using h
    subst this;exact ⟨rfl,rfl⟩
theorem bCp (c:UInt8):∀ l:List UInt8,decide (0<=Lib.indexByte l c)=l.contains c
 | []=>rfl
 | b :: l=>by
  have ih:=bCp c l;have hge:=Lib.indexByte_ge l c;rw [List.contains_cons,<- ih];show decide (0<=(if b==c then 0 else if Lib.indexByte l c == -1 then -1 else Lib.indexByte l c+1))=_
  rw [show (c==b)=(b==c) from Bool.eq_iff_iff.2 (by simp;exact eq_comm)]
  cases hb:b==c with
  | true=>simp
  | false =>
   simp only [Bool.false_eq_true,if_false,Bool.false_or]
   rw [Bool.eq_iff_iff];simp
   split <;> omega
theorem aSb (s p:ByteArray) (w:World) :
  Calls prog 161 #[.string s,.string p] w fun e w'=>e = .returned (.bool (Lib.hasPrefix s.data.toList p.data.toList))/\w=w':=by
 rw [<- Lib.hasPrefix_of_take,<- Lib.size_eq,<- Lib.size_eq];go_enter func161,ntmps161;go_wp2
 .rename_i h
  go_ret;refine ⟨?_,rfl⟩
  show Ending.returned (Value.bool ((s.extract 0 p.size).toList==p.toList))=_
  rw [Lib.extract_toList,Lib.toList_data];simp [h]
 .rename_i h
  go_ret;refine ⟨?_,rfl⟩
  show Ending.returned (Value.bool false)=_
  simp [h]
theorem aMd (s p:ByteArray) (w:World) :
  Calls prog 137 #[.string s,.string p] w fun e w'=>e = .returned (.bool (Lib.hasPrefix s.data.toList p.data.toList))/\w=w':=by
 go_enter func137,ntmps137
 go_wp2_with (go_at_call 161;refine (aSb _ _ _).mono ?_;rintro e w' ⟨rfl,rfl⟩)
 go_ret;exact ⟨rfl,rfl⟩
theorem aUo (s:ByteArray) (c:Int) (w:World) :
  Calls prog 162 #[.string s,.int .u8 c] w fun e w'=>e = .returned (.int .i64 (Lib.indexByte s.data.toList c.toNat.toUInt8))/\w=w':=by
 go_enter func162,ntmps162;go_wp2;rw [run_callFunc_extern func180 (by kernel_rfl) (by kernel_rfl) (by kernel_rfl) (e:=Extern.BytealgIndexByte.indexByte) (by kernel_rfl),Lib.run_indexByteString]
 simp only [Result.andThen]
 rw [Oper.upon_value];go_wp2;go_ret;exact ⟨rfl,rfl⟩
theorem aUk (s:ByteArray) (c:Int) (w:World) :
  Calls prog 138 #[.string s,.int .u8 c] w fun e w'=>e = .returned (.int .i64 (Lib.indexByte s.data.toList c.toNat.toUInt8))/\w=w':=by
 go_enter func138,ntmps138
 go_wp2_with (go_at_call 162;refine (aUo _ _ _).mono ?_;rintro e w' ⟨rfl,rfl⟩)
 go_ret;exact ⟨rfl,rfl⟩
theorem aSv (c:UInt8) (b:Bool) (hb:signs1.contains c=b) (w:World) :
  Calls prog 138 #[.string { data:=#[59,58,44,40,41,46,63,60,62,43,45,42,47,37,33] },.int .u8 (c.toNat:Int)] w fun e w'=>(∃ i:Int,e = .returned (.int .i64 i)/\decide (0<=i)=b)/\w=w':=by
 refine (aUk _ _ _).mono ?_
 rintro e w' ⟨rfl,rfl⟩;refine ⟨⟨_,rfl,?_⟩,rfl⟩
 have h:=bCp c signs1;rw [hb] at h;rw [<- h];have e:(Int.toNat (c.toNat:Int)).toUInt8=c:=by simp
 rw [e];rfl
def sgs:List (List UInt8):=[[46,46],[45,62],[58,61],[38,38],[124,124],[61,61],[33,61],[60,61],[62,61]]
def aRn (k:Nat):ByteArray:=ba (sgs.getD k [])
def bG2:Obj := .cells #[.string (aRn 0),.string (aRn 1),.string (aRn 2),.string (aRn 3),.string (aRn 4),.string (aRn 5),.string (aRn 6),.string (aRn 7),.string (aRn 8)] 9 (0,0)
theorem bOl (w:World) (k:Nat) (h:k<9):(w.alloc bG2).cell? ⟨w.heap.size,k,none⟩=some (.string (aRn k)):=by
 have hb:Blk (w.alloc bG2) w.heap.size #[.string (aRn 0),.string (aRn 1),.string (aRn 2),.string (aRn 3),.string (aRn 4),.string (aRn 5),.string (aRn 6),.string (aRn 7),.string (aRn 8)] 9:=heap_alloc_new w _;refine hb.cell k ?_
 match k,h with
 | 0,_=>rfl
 | 1,_=>rfl
 | 2,_=>rfl
 | 3,_=>rfl
 | 4,_=>rfl
 | 5,_=>rfl
 | 6,_=>rfl
 | 7,_=>rfl
 | 8,_=>rfl
 | k+9,h=>omega
theorem aMe (c d a b:UInt8) (r:List UInt8):Lib.hasPrefix (c :: d :: r) [a,b]=(c==a&&d==b):=by
 rw [<- Lib.hasPrefix_of_take];simp
theorem aUj (c a b:UInt8):Lib.hasPrefix [c] [a,b]=false:=by
 rw [<- Lib.hasPrefix_of_take];simp
theorem bOm (k:Nat) (h:k<9):∃ a b,sgs.getD k []=[a,b]/\(a,b)∈signs2:=by
 match k,h with
 | 0,_=>exact ⟨_,_,rfl,by decide⟩
 | 1,_=>exact ⟨_,_,rfl,by decide⟩
 | 2,_=>exact ⟨_,_,rfl,by decide⟩
 | 3,_=>exact ⟨_,_,rfl,by decide⟩
 | 4,_=>exact ⟨_,_,rfl,by decide⟩
 | 5,_=>exact ⟨_,_,rfl,by decide⟩
 | 6,_=>exact ⟨_,_,rfl,by decide⟩
 | 7,_=>exact ⟨_,_,rfl,by decide⟩
 | 8,_=>exact ⟨_,_,rfl,by decide⟩
 | k+9,h=>omega
theorem bJq:∀ x∈signs2,∃ k,k<9/\sgs.getD k []=[x.1,x.2]:=by decide
theorem bJp {l:List UInt8} {k:Nat} (hk:k<9) (h:Lib.hasPrefix l (sgs.getD k [])=true):aOg l=2:=by
 obtain ⟨a,b,e,hm⟩:=bOm k hk;rw [e] at h
 match l,h with
 | [],h=>rw [<- Lib.hasPrefix_of_take] at h;simp at h
 | [c],h=>rw [aUj] at h;cases h
 | c :: d :: r,h =>
  rw [aMe] at h;simp at h
  obtain ⟨rfl,rfl⟩:=h;show (if signs2.contains (c,d) then 2 else _)=2
  rw [if_pos (List.contains_iff_mem.2 hm)]
theorem bG3 {c:UInt8} {r:List UInt8} (h:∀ k,k<9->Lib.hasPrefix (c :: r) (sgs.getD k [])=false):aOg (c :: r)=if signs1.contains c then 1 else 0:=by
 match r,h with
 | [],_=>rfl
 | d :: r,h =>
  show (if signs2.contains (c,d) then 2 else if signs1.contains c then 1 else 0)=_
  rw [if_neg];intro hx
  obtain ⟨k,hk,e⟩:=bJq _ (List.contains_iff_mem.1 hx);have:=h k hk;rw [e,aMe] at this;simp at this
theorem bMp (s:ByteArray) (w:World) (h0:0<s.size) (hs:s.size<=1000000) :
  Calls prog 102 #[.string s] w fun e w'=>e = .returned (.int .i64 (aOg (aA5 s):Nat))/\Bel w w':=by
 go_enter func102,ntmps102;have H0:=aA0 (aCb s h0);go_wp2;have HW:Hid (Bel w (w.alloc bG2)):=(Bel.refl w).alloc _;have HC:=aA0 (fun k h=>bOl w k h);have HSZ:Hid (w.heap.size<(w.alloc bG2).heap.size):=by show _<_;simp
 show Code.wp _ _ _ _ (w.alloc bG2)
 generalize w.alloc bG2=w1 at *;generalize w.heap.size=B at *;have hb:=HSZ.out
 go_loopg [4,7] 9 (fun m _x z wr=>∃ j:Nat,j<=9/\m=9-j/\Hid (∀ k,k<j->Lib.hasPrefix (aA5 s) (sgs.getD k [])=false)/\z = .int .i64 j/\w1=wr)
 case atStart=>exact ⟨0,by omega,rfl,fun k h=>by omega,rfl,rfl⟩
 case round =>
  obtain ⟨j,hj,rfl,HK,rfl,rfl⟩:=hrel
  by_cases hlt:j<9
  .have hd0:decide (j<9)=true:=by simpa using hlt
   have hc:=HC.out j hlt;cases hp:Lib.hasPrefix (aA5 s) (sgs.getD j []) with
   | true =>
    have HG:=aA0 (bJp hlt hp)
    go_wp2_with (go_at_call 137;refine (aMd s (aRn j) _).mono ?_;rintro e w' ⟨rfl,rfl⟩;rw [show Lib.hasPrefix s.data.toList (aRn j).data.toList=true from hp])
    go_ret;exact ⟨aA9 (by rw [HG.out];rfl),HW.out⟩
   | false =>
    have HG:Hid (∀ k,k<j+1->Lib.hasPrefix (aA5 s) (sgs.getD k [])=false):=by
     intro k hk
     by_cases hkj:k=j
     .subst hkj;exact hp
     .exact HK.out k (by omega)
    go_wp2_with (go_at_call 137;refine (aMd s (aRn j) _).mono ?_;rintro e w' ⟨rfl,rfl⟩;rw [show Lib.hasPrefix s.data.toList (aRn j).data.toList=false from hp])
    go_roundg (9-(j+1))
    case rel=>exact ⟨j+1,by omega,rfl,HG,by go_num,rfl⟩
    case measure=>omega
  .have hd0:decide (j<9)=false:=by simpa using hlt
   have HM:Hid (aOg (aA5 s)=if signs1.contains s[0] then 1 else 0):=by
    have e:aA5 s=s[0] :: (aA5 s).drop 1:=by have:=H0.out;simpa using this
    have h:=HK.out;show _=_
    rw [e] at h ⊢;exact bG3 (fun k hk=>h k (by omega))
   cases hx:signs1.contains s[0] with
   | true =>
    rw [hx] at HM
    go_wp2_with (go_at_call 138;refine (aSv s[0] true hx _).mono ?_;rintro e w' ⟨⟨i,rfl,hi⟩,rfl⟩)
    go_ret;exact ⟨aA9 (by rw [HM.out];rfl),HW.out⟩
   | false =>
    rw [hx] at HM
    go_wp2_with (go_at_call 138;refine (aSv s[0] false hx _).mono ?_;rintro e w' ⟨⟨i,rfl,hi⟩,rfl⟩)
    go_ret;exact ⟨aA9 (by rw [HM.out];rfl),HW.out⟩
def bOp (t:Tok):Value := .agg #[.int .i64 (t.kind:Int),.int .i64 (t.at_:Int),.int .i64 (t.en:Int),.int .i64 (t.num:Int)]
theorem bAj (c:UInt8) (w:World):Calls prog 99 #[.int .u8 (c.toNat:Int)] w fun e w'=>e = .returned (.bool (aEc c))/\w=w':=by
 rw [aSu];exact aNy c w
theorem aNl (c:UInt8) (w:World):Calls prog 100 #[.int .u8 (c.toNat:Int)] w fun e w'=>e = .returned (.bool (aEr c))/\w=w':=by
 rw [aX2];exact aX3 c w
theorem aLj (c:UInt8) (w:World):Calls prog 98 #[.int .u8 (c.toNat:Int)] w fun e w'=>e = .returned (.bool (aJh c))/\w=w':=by
 rw [aNz];exact aKf c w
theorem bCx {T:ByteArray} {k:Nat} (h:k<T.size):aV2 (aA5 T) k =
  if aJh T[k] then (if aD1 aEc ((aA5 T).drop k) k-k<=24 then some ⟨1,k,aD1 aEc ((aA5 T).drop k) k,0⟩ else none)
  else if aEr T[k] then (match aRa (((aA5 T).drop k).take (aD1 aEr ((aA5 T).drop k) k-k)) with | some v=>some ⟨2,k,aD1 aEr ((aA5 T).drop k) k,v⟩ | none=>none)
  else if aOg ((aA5 T).drop k)=0 then none else some ⟨3,k,k+aOg ((aA5 T).drop k),0⟩:=by
 unfold aV2;rw [aCb T h]
 (try rfl)
theorem aHn (w:World) (x y:Value) (a b:TypeId) (o:Obj):(((w.alloc (.cells #[x] a)).alloc (.cells #[y] b)).alloc o).cell? ⟨w.heap.size+1,0,none⟩=some y/\(((w.alloc (.cells #[x] a)).alloc (.cells #[y] b)).alloc o).cell? ⟨w.heap.size,0,none⟩=some x:=by
 have h1:Blk (w.alloc (.cells #[x] a)) w.heap.size #[x] a:=Blk.new w _ _
 have h2:Blk ((w.alloc (.cells #[x] a)).alloc (.cells #[y] b)) (w.heap.size+1) #[y] b:=by
  have:=Blk.new (w.alloc (.cells #[x] a)) #[y] b
  rwa [World.size_alloc] at this
 exact ⟨(h2.alloc o).cell 0 rfl,((h1.alloc _).alloc o).cell 0 rfl⟩
theorem aK0 {w:World} {B:Nat} {a b c d:Value} {t:TypeId} (h:Blk w B #[a,b,c,d] t):w.cell? ⟨B,0,none⟩=some a/\w.cell? ⟨B,1,none⟩=some b/\w.cell? ⟨B,2,none⟩=some c/\w.cell? ⟨B,3,none⟩=some d:=⟨h.cell 0 rfl,h.cell 1 rfl,h.cell 2 rfl,h.cell 3 rfl⟩
theorem bBn (w:World) (x y:Value) (a b t:TypeId) (cs:Array Value):Blk (((w.alloc (.cells #[x] a)).alloc (.cells #[y] b)).alloc (.cells cs t)) (w.heap.size+1+1) cs t:=by
 have:=Blk.new ((w.alloc (.cells #[x] a)).alloc (.cells #[y] b)) cs t
 rwa [World.size_alloc,World.size_alloc] at this
theorem aZc (p:UInt8->Bool):∀ (l:List UInt8) (k:Nat),∀ c∈l.take (aD1 p l k-k),p c=true
 | [],k,c,h=>by simp at h
 | x :: l,k,c,h=>by
  unfold aD1 at h;split at h
  .rename_i hx
   have hge:=(aGx p l (k+1)).1;rw [show aD1 p l (k+1)-k=(aD1 p l (k+1)-(k+1))+1 by omega,List.take_succ_cons] at h
   rcases List.mem_cons.1 h with rfl | h
   .exact hx
   .exact aZc p l (k+1) c h
  .simp at h
theorem aNd {p:UInt8->Bool} {c:UInt8} {l:List UInt8} {k:Nat} (h:p c=true):k+1<=aD1 p (c :: l) k:=by
 unfold aD1;rw [if_pos h];exact (aGx p l (k+1)).1
theorem bM0 (T:ByteArray) (k:Nat) (t:Tok) (w:World) (hk:k<T.size) (hT:T.size<=1000000) (h:aV2 (aA5 T) k=some t) :
  Calls prog 53 #[.string T,.int .i64 (k:Int)] w fun e w'=>e = .returned (.tuple #[bOp t,.int .i64 0])/\Bel w w':=by
 rw [bCx hk] at h;have hk2:k<=T.size:=by omega
 have hd0:decide (k<T.size)=true:=by simpa using hk
 cases h1:aJh T[k] with
 | true =>
  rw [h1,if_pos rfl] at h;have hw:=aGx aEc ((aA5 T).drop k) k;have hw2:=aNd (k:=k) (l:=(aA5 T).drop (k+1)) (p:=aEc) (c:=T[k]) (by unfold aEc;rw [h1];rfl)
  rw [<- aCb T hk] at hw2;rw [List.length_drop,aAv] at hw;obtain ⟨e,he⟩:∃ e,aD1 aEc ((aA5 T).drop k) k=e:=⟨_,rfl⟩;rw [he] at h hw hw2;have HE:=aA0 he;clear he;split at h
  .rename_i hle
   injection h with h
   subst h;have e1:IntKind.i64.wrap ((e:Int)-(k:Int))=(e:Int)-(k:Int):=IntWalk.i64_in _ (by omega)
   have d1:decide ((24:Int)<(e:Int)-(k:Int))=false:=by simp;omega
   go_enter func53,ntmps53
   go_wp2_with (first
    | (go_at_call 98;refine (aLj T[k] _).mono ?_;rintro e w' ⟨rfl,rfl⟩;rw [h1])
    | (refine (aZd 99 aEc bAj (fun _ _=>by kernel_rfl) T k _ _ _ hk2 hT (aHn w _ _ _ _ _).1 (aHn w _ _ _ _ _).2).mono ?_;rintro e w' ⟨rfl,rfl⟩;rw [HE.out]))
   obtain ⟨y0,y1,y2,y3⟩:=aK0 (bBn w (.string T) (.int .i64 k) 9 3 119 #[.int .i64 1,.int .i64 k,.int .i64 e,.int .i64 0]);refine bodyPost_ret (v := .tuple #[bOp ⟨1,k,e,0⟩,.int .i64 0]) (by simp [results,Tryz.results53,go_sem,y0,y1,y2,y3,bOp];try go_simp) rfl ⟨rfl,(((Bel.refl w).alloc _).alloc _).alloc _⟩
  .cases h
 | false =>
  rw [h1,if_neg (by simp)] at h
  cases h2:aEr T[k] with
  | true =>
   rw [h2,if_pos rfl] at h;have hw:=aGx aEr ((aA5 T).drop k) k;have hw2:=aNd (k:=k) (l:=(aA5 T).drop (k+1)) (p:=aEr) (c:=T[k]) h2;rw [<- aCb T hk] at hw2;rw [List.length_drop,aAv] at hw;have hall:=aZc aEr ((aA5 T).drop k) k;obtain ⟨e,he⟩:∃ e,aD1 aEr ((aA5 T).drop k) k=e:=⟨_,rfl⟩;rw [he] at h hw hw2 hall;have HE:=aA0 he;clear he;obtain ⟨hw0,hw1⟩:=hw;have hke:k<=e:=hw0;have heT:e<=T.size:=by omega
   have hD:aA5 (T.extract k e)=((aA5 T).drop k).take (e-k):=Lib.extract_data T k e;have hDs:(T.extract k e).size=e-k:=by rw [<- aAv,hD,List.length_take,List.length_drop,aAv];omega
   rw [<- hD] at h hall;cases hv:aRa (aA5 (T.extract k e)) with
   | none=>rw [hv] at h;cases h
   | some v =>
    rw [hv] at h;injection h with h
    subst h;have HN:=aA0 (fun w=>bFe (T.extract k e) v w (by omega) (by omega) hall hv)
    clear hv hall hD hDs hw2 hw1;have d1:decide (k<=e)=true:=by simpa using hke
    have d2:decide (e<=T.size)=true:=by simpa using heT
    go_enter func53,ntmps53
    go_wp2_with (first
     | (go_at_call 98;refine (aLj T[k] _).mono ?_;rintro e w' ⟨rfl,rfl⟩;rw [h1])
     | (go_at_call 100;refine (aNl T[k] _).mono ?_;rintro e w' ⟨rfl,rfl⟩;rw [h2])
     | (go_at_call 101;refine (HN.out _).mono ?_;rintro e w' ⟨rfl,rfl⟩)
     | (refine (aZd 100 aEr aNl (fun _ _=>by kernel_rfl) T k _ _ _ hk2 hT (aHn w _ _ _ _ _).1 (aHn w _ _ _ _ _).2).mono ?_;rintro e w' ⟨rfl,rfl⟩;rw [HE.out]))
    obtain ⟨y0,y1,y2,y3⟩:=aK0 (bBn w (.string T) (.int .i64 k) 9 3 119 #[.int .i64 2,.int .i64 k,.int .i64 e,.int .i64 v]);refine bodyPost_ret (v := .tuple #[bOp ⟨2,k,e,v⟩,.int .i64 0]) (by simp [results,Tryz.results53,go_sem,y0,y1,y2,y3,bOp];try go_simp) rfl ⟨rfl,(((Bel.refl w).alloc _).alloc _).alloc _⟩
  | false =>
   rw [h2,if_neg (by simp)] at h
   have hD:aA5 (T.extract k T.size)=(aA5 T).drop k:=by
    rw [show aA5 (T.extract k T.size)=((aA5 T).drop k).take (T.size-k) from Lib.extract_data T k T.size,List.take_of_length_le]
    rw [List.length_drop,aAv];omega
   have hDs:(T.extract k T.size).size=T.size-k:=by rw [<- aAv,hD,List.length_drop,aAv]
   obtain ⟨n,hn⟩:∃ n,aOg ((aA5 T).drop k)=n:=⟨_,rfl⟩
   have hn2:n<=2:=by
    rw [<- hn,aCb T hk];cases (aA5 T).drop (k+1) <;> (unfold aOg;repeat' split) <;> omega
   rw [hn] at h
   by_cases hn0:n=0
   .rw [if_pos hn0] at h;cases h
   .rw [if_neg hn0] at h
    injection h with h
    subst h;have HSG:=aA0 (fun w=>bMp (T.extract k T.size) w (by omega) (by omega))
    rw [hD,hn] at HSG;have d1:((n:Int)==0)=false:=by simp;omega
    have d2:IntKind.i64.wrap ((k:Int)+(n:Int))=((k+n:Nat):Int):=by rw [IntWalk.i64_in _ (by omega)];omega
    clear hn hD hDs;have HB0:=(((Bel.refl w).alloc (.cells #[.string T] 9)).alloc (.cells #[.int .i64 k] 3)).alloc (.cells #[.int .i64 0,.int .i64 0,.int .i64 0,.int .i64 0] 119);have HZ:=bBn w (.string T) (.int .i64 k) 9 3 119 #[.int .i64 0,.int .i64 0,.int .i64 0,.int .i64 0];have HC:=aA0 (aHn w (.string T) (.int .i64 k) 9 3 (.cells #[.int .i64 0,.int .i64 0,.int .i64 0,.int .i64 0] 119));go_enter func53,ntmps53
    go_wp2_with (first
     | (go_at_call 98;refine (aLj T[k] _).mono ?_;rintro e w' ⟨rfl,rfl⟩;rw [h1])
     | (go_at_call 100;refine (aNl T[k] _).mono ?_;rintro e w' ⟨rfl,rfl⟩;rw [h2])
     | (go_at_call 102;refine (HSG.out _).mono ?_;rintro e w' ⟨rfl,hb⟩;have c1:=(hb.cell (b:=w.heap.size+1) (o:=0) (by simp <;> omega)).trans HC.out.1;have c2:=(hb.cell (b:=w.heap.size) (o:=0) (by simp <;> omega)).trans HC.out.2;have HZ':=HZ.keep hb;have f0:=HZ'.frozen 0;have f1:=HZ'.frozen 1;have f2:=HZ'.frozen 2;have f3:=HZ'.frozen 3;obtain ⟨q0,q1,q2,q3⟩:=aK0 HZ';have hlt:=HZ'.lt;have HB1:=HB0.trans hb;have HZ2:=aA0 HZ';clear hb HZ'))
    have hZ:=(((HZ2.out.set 0 (.int .i64 3)).set 1 (.int .i64 k)).set 2 (.int .i64 ((k+n:Nat):Int))).set 3 (.int .i64 0);obtain ⟨y0,y1,y2,y3⟩:=aK0 (show Blk _ _ #[.int .i64 3,.int .i64 k,.int .i64 ((k+n:Nat):Int),.int .i64 0] _ from hZ)
    refine bodyPost_ret (v := .tuple #[bOp ⟨3,k,k+n,0⟩,.int .i64 0]) (by simp [results,Tryz.results53,go_sem,y0,y1,y2,y3,bOp];try go_simp) rfl ⟨rfl,(((HB1.setCell (by simp <;> omega) _).setCell (by simp <;> omega) _).setCell (by simp <;> omega) _).setCell (by simp <;> omega) _⟩
section
variable {P:Program} {ops:Array Oper} {Q:Exit->Act->World->Prop} {md:Region.Mode} {S:World->Prop} {Ls:List Nat}
def aFd (P:Program) (md:Region.Mode) (ops:Array Oper) (Q:Exit->Act->World->Prop) (S:World->Prop) (Ls:List Nat):Nat->Array Bool->Act->World->Prop
 | 0,listed,a,w=>Region.ready md ops listed=[]/\Q .normal a w
 | fuel+1,listed,a,w=>(Region.ready md ops listed=[]->Q .normal a w) /\
   ∀ i∈Region.ready md ops listed,wpOp P ops Q i (fun a' w'=>(i ∉ Ls->S w')/\aFd P md ops Q S Ls fuel (listed.setIfInBounds i true) a' w') a w
theorem aFd.any:∀ (fuel:Nat) (listed:Array Bool) (a:Act) (w:World),aFd P md ops Q S Ls fuel listed a w->wpAny P md ops Q fuel listed a w
 | 0,_,_,_,h=>h
 | fuel+1,_,_,_,h=>⟨h.1,fun i hi=>wpOp_mono (fun a' w' k=>aFd.any fuel _ a' w' k.2) (h.2 i hi)⟩
theorem aFd.first {i:Nat} {oi:Oper} {v:Value} (cs:List Nat) (hi:ops[i]?=some oi) (hsel:∀ (j:Nat) (o:Oper) cs b,ops[j]?=some o->o.op ≠ .select cs b)
  (hL:∀ l∈Ls,l∈cs) (hw:aPg md ops i cs=true)
  (hQ:∀ c a w,Q (.panic c) (a.put oi.dst v) w->Q (.panic c) a w) (fuel:Nat):∀ (listed:Array Bool) (a:Act) (w:World),
   (∀ j oj,ops[j]?=some oj->j≠i->listed.getD j true=false->(∀ e∈oj.after,Region.binds md e=true->e.on≠i)->oi.apart ops oj=true) ->
   i∈Region.ready md ops listed->aFa listed cs=true->YieldsIf P ops S oi v a->S w ->
   aFd P md ops Q S Ls fuel (listed.setIfInBounds i true) (a.put oi.dst v) w->aFd P md ops Q S Ls (fuel+1) listed a w:=by
 induction fuel with
 | zero =>
  intro listed a w _ hr _ hy hS H
  refine And.intro (fun h=>?_) (fun j hj=>?_)
  .rw [h] at hr;exact absurd hr (by simp)
  by_cases hji:j=i
  .subst hji;exact hy.wpOp hi hS ⟨fun _=>hS,H⟩
  .have:=ready_mono hj hji
   rw [H.1] at this;exact absurd this (by simp)
 | succ fuel ih =>
  intro listed a w hfree hr hun hy hS H
  refine And.intro (fun h=>?_) (fun j hj=>?_)
  .rw [h] at hr;exact absurd hr (by simp)
  by_cases hji:j=i
  .subst hji;exact hy.wpOp hi hS ⟨fun _=>hS,H⟩
  have hi0:=(mem_ready.1 hr).1;have hjc:=aYi hj cs i hi0 hw hun;have hjL:j ∉ Ls:=fun e=>hjc (hL j e);obtain ⟨hjun,oj,hoj,hall⟩:=mem_ready.1 hj
  have hnot:∀ e∈oj.after,Region.binds md e=true->e.on≠i:=fun e he hb heq=>by
   have h1:=hall e he hb;rw [heq] at h1
   rcases Nat.lt_or_ge i listed.size with h' | h'
   .simp [h'] at hi0 h1;rw [hi0] at h1;cases h1
   .simp [Array.getElem?_eq_none h'] at h1
  have h2:=wpOp_putIf hoj (hfree j oj hoj hji hjun hnot) (fun cs b=>hsel i oi cs b hi) (fun cs b=>hsel j oj cs b hoj) hQ hy (H.2 j (ready_mono hj hji));refine wpOp_mono (fun a' w' h3=>?_) h2
  obtain ⟨hy',hS',hrest⟩:=h3;have hs':=hS' hjL;refine ⟨fun _=>hs',ih _ a' w' ?_ (ready_mono hr (Ne.symm hji)) ?_ hy' hs' (by rw [Array.setIfInBounds_comm _ _ hji];exact hrest)⟩
  .intro k ok hk hki hunk hno
   refine hfree k ok hk hki ?_ hno
   by_cases hjk:j=k
   .subst hjk;exact hjun
   .rw [getD_set_ne true hjk] at hunk;exact hunk
  .unfold aFa at hun ⊢
   rw [List.all_eq_true] at hun ⊢;intro c hc
   rw [getD_set_ne true (show j≠c from fun e=>hjc (by rw [e];exact hc))]
   exact hun c hc
theorem aFd.t {L:Nat} {oi:Oper} {v:Value} {fuel:Nat} {listed:Array Bool} {a:Act} {w:World} (i d:Nat) (hi:ops[i]?=some oi) (hd:oi.dst=some d)
  (hc:(Region.noSelect ops&&Region.free md ops listed i&&(Region.ready md ops listed).contains i&&((L :: Ls).all (aGn md ops L 60 i).contains&&aPg md ops i (aGn md ops L 60 i)&&aFa listed (aGn md ops L 60 i)))=true)
  (hQ:∀ c a w,Q (.panic c) (a.put (some d) v) w->Q (.panic c) a w) (hS:S w) (hy:YieldsIf P ops S oi v a)
  (h:aFd P md ops Q S (L :: Ls) fuel (listed.setIfInBounds i true) (a.put (some d) v) w):aFd P md ops Q S (L :: Ls) (fuel+1) listed a w:=by
 rw [Bool.and_eq_true,Bool.and_eq_true,Bool.and_eq_true,Bool.and_eq_true,Bool.and_eq_true] at hc;exact aFd.first (aGn md ops L 60 i) hi (Region.noSelect_spec hc.1.1.1) (fun l hl=>by have:=List.all_eq_true.1 hc.2.1.1 l hl;simpa using this) hc.2.1.2 (by rw [hd];exact hQ) fuel listed a w (Region.free_spec hi hc.1.1.2) (by simpa using hc.1.2) hc.2.2 hy hS (by rw [hd];exact h)
theorem aFd.one {i:Nat} {o:Oper} {fuel:Nat} {listed:Array Bool} {a:Act} {w:World} (hr:Region.ready md ops listed=[i]) (ho:ops[i]?=some o)
  (h:∀ K':Act->World->Prop,Shut (∀ a w,(i ∉ Ls->S w)->aFd P md ops Q S Ls fuel (listed.setIfInBounds i true) a w->K' a w)->if Region.wanted o (yielded ops a.tmps)=true then Oper.wp P o a w K' Q else K' (a.put o.dst undef) w) :
  aFd P md ops Q S Ls (fuel+1) listed a w:=by
 refine And.intro (fun h=>by rw [h] at hr;exact absurd hr (by simp)) (fun j hj=>?_)
 rw [hr] at hj;obtain rfl:j=i:=by simpa using hj
 exact wpOp_step ho (fun K' hK=>h K' (fun a w hS hW=>hK a w ⟨hS,hW⟩))
theorem aFd.two {i j:Nat} {o o2:Oper} {fuel:Nat} {listed:Array Bool} {a:Act} {w:World} (hr:Region.ready md ops listed=[i,j]) (ho:ops[i]?=some o) (ho2:ops[j]?=some o2)
  (h:∀ K':Act->World->Prop,Shut (∀ a w,(i ∉ Ls->S w)->aFd P md ops Q S Ls fuel (listed.setIfInBounds i true) a w->K' a w)->if Region.wanted o (yielded ops a.tmps)=true then Oper.wp P o a w K' Q else K' (a.put o.dst undef) w)
  (h2:∀ K':Act->World->Prop,Shut (∀ a w,(j ∉ Ls->S w)->aFd P md ops Q S Ls fuel (listed.setIfInBounds j true) a w->K' a w)->if Region.wanted o2 (yielded ops a.tmps)=true then Oper.wp P o2 a w K' Q else K' (a.put o2.dst undef) w) :
  aFd P md ops Q S Ls (fuel+1) listed a w:=by
 refine And.intro (fun h=>by rw [h] at hr;exact absurd hr (by simp)) (fun k hk=>?_)
 rw [hr] at hk;have hk':k=i∨k=j:=by simpa using hk
 rcases hk' with rfl | rfl
 .exact wpOp_step ho (fun K' hK=>h K' (fun a w hS hW=>hK a w ⟨hS,hW⟩))
 .exact wpOp_step ho2 (fun K' hK=>h2 K' (fun a w hS hW=>hK a w ⟨hS,hW⟩))
theorem aFd.done {listed:Array Bool} {a:Act} {w:World} (hr:Region.ready md ops listed=[]) (h:Q .normal a w):∀ fuel,aFd P md ops Q S Ls fuel listed a w
 | 0=>⟨hr,h⟩
 | _+1=>⟨fun _=>h,by rw [hr];simp⟩
theorem aFd.start (S:World->Prop) (Ls:List Nat) {id:Nat} {a:Act} {w:World} (hm:P.follows .mixedOrders=true)
  (h:aFd P .any ops Q S Ls ops.size (Array.replicate ops.size false) a w.drew):(Code.region id ops true).wp P Q a w :=
 wp_region_any hm (aFd.any _ _ _ _ h)
end
end Go.Proofs.YtmoebklkkjbigaaGreatDoor

