/- Merged. -/
import Derived.Test.YtmoebklkkjbigaaGreatDoorZ13
import Derived.Test.YtmoebklkkjbigaaGreatDoorZ14
set_option linter.unusedSimpArgs false
set_option linter.unnecessarySimpa false
set_option linter.unusedVariables false
set_option maxRecDepth 100000
set_option maxHeartbeats 2000000
open Go.Proofs.Tryz

namespace Go.Proofs.YtmoebklkkjbigaaGreatDoor
open Go.RowKit
theorem aCy.cells {w:World} {A:Option Addr} {l:List Int} (h:aCy w A l.length l):aWc w 1 A l.length (l.map (Value.int .i64)):=by
 refine ⟨by simp,fun j u hu=>?_⟩
 rw [List.getElem?_map] at hu;cases hx:l[j]? with
 | none=>rw [hx] at hu;cases hu
 | some x =>
  rw [hx] at hu;obtain rfl:Value.int .i64 x=u:=by simpa using hu
  obtain ⟨b,o,e,_,hc⟩:=h.2 j x hx;exact ⟨b,o,e,by simpa [aJd] using hc⟩
theorem aMk (l:List Int):∀ u∈l.map (Value.int .i64),u.oneCell'=true:=by
 intro u hu
 obtain ⟨x,_,rfl⟩:=List.mem_map.1 hu;rfl
def Off (g:Nat) (A:Option Addr):Prop:=∀ b o,A=some ⟨b,o,none⟩->b≠g
theorem aCy.other {w:World} {A:Option Addr} {l:List Int} {g v:Nat} {x:Value} (h:aCy w A l.length l) (ho:Off g A):aCy (w.setCell ⟨g,v,none⟩ x) A l.length l:=by
 refine ⟨rfl,fun i y hy=>?_⟩
 obtain ⟨b,o,rfl,hb,hc⟩:=h.2 i y hy
 exact ⟨b,o,rfl,by simpa using hb,by
  unfold aJd at *;rw [((Fr.refl g w).set v x).cell hb (ho b o rfl)];exact hc⟩
structure OwnC (w:World) (base g cap:Nat) (d:aA2) (hs:List Value):Prop where
 own:w.ownsRow base 22 1 (.slice (some ⟨g,0,none⟩) d.length cap) d.length hs
 rows:∀ u (hu:u<d.length),∃ R c',hs[u]?=some (.slice R d[u].length c')/\aCy w R d[u].length d[u]/\d[u].length<=c'/\c'<=maxLen/\Off g R
theorem OwnC.keep {w w':World} {base g cap:Nat} {d:aA2} {hs:List Value} (h:OwnC w base g cap d hs) (k:Bel w w'):OwnC w' base g cap d hs :=
 ⟨k.owns h.own,fun u hu=>by
  obtain ⟨R,c',h1,h2,h3⟩:=h.rows u hu;exact ⟨R,c',h1,h2.keep k,h3⟩⟩
theorem OwnC.conf {w:World} {base g cap:Nat} {d:aA2} {hs:List Value} (h:OwnC w base g cap d hs):aD7 w (.slice (some ⟨g,0,none⟩) d.length cap) d:=by
 obtain ⟨h1,h2⟩:=aCv h.own;refine ⟨_,_,rfl,⟨rfl,fun u x hx=>?_⟩,h1,h2⟩
 have hu:u<d.length:=(List.getElem?_eq_some_iff.1 hx).1;have hxe:d[u]=x:=(List.getElem?_eq_some_iff.1 hx).2;obtain ⟨R,c',k1,k2,k3,k4,_⟩:=h.rows u hu;obtain ⟨g',e1,_,hlt,hc,_⟩:=aAn h.own k1;obtain rfl:g=g':=by simpa using e1
 subst hxe;exact ⟨g,0,rfl,hlt,R,c',by rw [Nat.zero_add,Nat.mul_one];exact hc,k2,k3,k4⟩
theorem OwnC.set {w:World} {base g cap:Nat} {d:aA2} {hs:List Value} (h:OwnC w base g cap d hs) {v:Nat} {l:List Int} {A:Option Addr} {c':Nat} (hv:v<d.length) (hl:aCy w A l.length l) (h1:l.length<=c') (h2:c'<=maxLen) (ho:Off g A) :
  OwnC (w.setCell ⟨g,v,none⟩ (.slice A l.length c')) base g cap (d.set v l) (hs.set v (.slice A l.length c')):=by
 have hlen:hs.length=d.length:=by have:=h.own.1;omega
 refine ⟨by rw [List.length_set];exact (h.own.stored v _).1,fun u hu=>?_⟩
 rw [List.length_set] at hu
 by_cases he:v=u
 .subst he
  rw [List.getElem_set_self];exact ⟨A,c',List.getElem?_set_self (by omega),hl.other ho,h1,h2,ho⟩
 .rw [List.getElem_set_ne he]
  obtain ⟨R,c2,k1,k2,k3,k4,k5⟩:=h.rows u hu;exact ⟨R,c2,by rw [List.getElem?_set_ne he];exact k1,k2.other k5,k3,k4,k5⟩
def aZh (w:World) (B:Nat) (A:Option Addr) (c:Nat) (l:List Int):Prop:=aCy w A l.length l/\l.length<=c/\c<=maxLen/\∀ b o,A=some ⟨b,o,none⟩->B<=b/\b<w.heap.size
theorem aZh.off {w:World} {B:Nat} {A:Option Addr} {c:Nat} {l:List Int} (h:aZh w B A c l) {g:Nat} (hg:g<B):Off g A:=fun b o e=>by have:=h.2.2.2 b o e;omega
theorem aZh.keep {w w':World} {B:Nat} {A:Option Addr} {c:Nat} {l:List Int} (h:aZh w B A c l) (k:Bel w w'):aZh w' B A c l:=⟨h.1.keep k,h.2.1,h.2.2.1,fun b o e=>⟨(h.2.2.2 b o e).1,Nat.lt_of_lt_of_le (h.2.2.2 b o e).2 k.size⟩⟩
theorem aZh.lower {w:World} {B B':Nat} {A:Option Addr} {c:Nat} {l:List Int} (h:aZh w B A c l) (hB:B'<=B):aZh w B' A c l:=⟨h.1,h.2.1,h.2.2.1,fun b o e=>⟨Nat.le_trans hB (h.2.2.2 b o e).1,(h.2.2.2 b o e).2⟩⟩
theorem aZh.gr {w w':World} {B:Nat} {A:Option Addr} {c:Nat} {l:List Int} {row:Option Nat} (h:aZh w B A c l) (hg:Gr row w w') (ho:∀ b o,A=some ⟨b,o,none⟩->some b≠row):aZh w' B A c l :=
 ⟨⟨rfl,fun i x hx=>by
  obtain ⟨b,o,e,hb,hc⟩:=h.1.2 i x hx;exact ⟨b,o,e,Nat.lt_of_lt_of_le hb hg.1,(hg.cell hb (ho b o e)).trans hc⟩⟩,h.2.1,h.2.2.1,fun b o e=>⟨(h.2.2.2 b o e).1,Nat.lt_of_lt_of_le (h.2.2.2 b o e).2 hg.1⟩⟩
theorem aN0 {w:World} {base:Nat} {e:TypeId} {A:Option Addr} {n c:Nat} {l:List Int} (h:w.ownsRow base e 1 (.slice A n c) n (l.map (Value.int .i64))):n=l.length/\aZh w base A c l:=by
 have hn:n=l.length:=by have:=h.1;simp at this;omega
 subst hn;obtain ⟨h1,h2⟩:=aCv h;refine ⟨rfl,aVb h,h1,h2,fun b o e=>?_⟩
 subst e
 rcases h.2 with ⟨hv,_⟩ | ⟨g',cap,cur,hv,hb,hg,_⟩
 .cases hv
 .injection hv with hA;injection hA with hA;injection hA with hA;subst hA;exact ⟨hb,lt_of_block hg⟩
theorem bNa {w:World} {base:Nat} {e:TypeId} {size n cap g o:Nat} {hs:List Value} (h:w.ownsRow base e size (.slice (some ⟨g,o,none⟩) n cap) n hs):g<w.heap.size:=by
 rcases h.2 with ⟨hv,_⟩ | ⟨g',_,_,hv,_,hg,_⟩
 .cases hv
 .injection hv with hA;injection hA with hA;injection hA with hA;subst hA;exact lt_of_block hg
def bNj (l:List Int) (w:World) (e:Ending) (w':World):Prop:=∃ A c,e = .returned (.slice A l.length c)/\aZh w' w.heap.size A c l/\Bel w w'
def aLz (N:Nat) (w:World) (hs:List Value):Prop:=∀ v∈hs,∀ b o n c,v = .slice (some ⟨b,o,none⟩) n c->N<=b/\b<w.heap.size
theorem aLz.size {N:Nat} {w w':World} {hs:List Value} (h:aLz N w hs) (k:w.heap.size<=w'.heap.size):aLz N w' hs:=fun v hv b o n c e=>⟨(h v hv b o n c e).1,Nat.lt_of_lt_of_le (h v hv b o n c e).2 k⟩
theorem aLz.zero (N n:Nat) (w:World):aLz N w (List.replicate n (.slice none 0 0)):=fun v hv b o n' c e=>by
 rw [List.eq_of_mem_replicate hv] at e;cases e
theorem aLz.set {N B:Nat} {w:World} {hs:List Value} (h:aLz N w hs) {A:Option Addr} {n c:Nat} {l:List Int} (hN:aZh w B A c l) (hB:N<=B) (i:Nat):aLz N w (hs.set i (.slice A n c)):=fun v hv b o n' c' e=>by
 rcases List.mem_or_eq_of_mem_set hv with hv | hv
 .exact h v hv b o n' c' e
 .subst hv
  injection e with e
  obtain ⟨h1,h2⟩:=hN.2.2.2 b o e;exact ⟨Nat.le_trans hB h1,h2⟩
theorem OwnC.newC {w W:World} {N g cap:Nat} {d:aA2} {hs:List Value} (h:OwnC w N g cap d hs) (hn:aLz N w hs) (k:aC4 N w W):aD7 W (.slice (some ⟨g,0,none⟩) d.length cap) d:=by
 refine OwnC.conf (base:=N) (hs:=hs) ⟨bD7 h.own k (aAb h.own).1,fun u hu=>?_⟩
 obtain ⟨R,c',h1,h2,h3⟩:=h.rows u hu;refine ⟨R,c',h1,⟨h2.1,fun i x hx=>?_⟩,h3⟩
 obtain ⟨b,o,e,hb,hc⟩:=h2.2 i x hx;subst e;obtain ⟨n1,n2⟩:=hn _ (List.mem_of_getElem? h1) b o _ _ rfl;exact ⟨b,o,rfl,Nat.lt_of_lt_of_le hb k.1,(k.cell n1 n2).trans hc⟩
def bGq (d:aA2) (w:World) (e:Ending) (w':World):Prop:=∃ g cap hs,e = .returned (.slice (some ⟨g,0,none⟩) d.length cap)/\OwnC w' w.heap.size g cap d hs/\aLz w.heap.size w' hs/\Bel w w'
theorem OwnC.zero {w:World} {base g cap n:Nat} {hs:List Value} (h:w.ownsRow base 22 1 (.slice (some ⟨g,0,none⟩) n cap) n hs) (hs0:hs=List.replicate n (.slice none 0 0)):OwnC w base g cap (List.replicate n []) hs:=by
 refine ⟨by rw [List.length_replicate];exact h,fun u hu=>?_⟩
 rw [List.length_replicate] at hu;refine ⟨none,0,?_,?_,?_,?_,fun b o e=>by cases e⟩
 .subst hs0;rw [List.getElem_replicate];rw [List.getElem?_replicate,if_pos hu];rfl
 .rw [List.getElem_replicate];exact aAc.nil
 .rw [List.getElem_replicate];exact Nat.le_refl _
 .unfold maxLen;omega
def aQt (c:aA2) (k:Nat):aA2:=c.take k++List.replicate (c.length-k) []
theorem aJo (c:aA2) (k:Nat):(aQt c k).length=c.length:=by simp [aQt];omega
theorem bEk (c:aA2):aQt c 0=List.replicate c.length []:=by simp [aQt]
theorem bEi (c:aA2):aQt c c.length=c:=by simp [aQt]
theorem bCh (c:aA2) (k i:Nat):(aQt c k)[i]?=if i<c.length then some (if i<k then c.getD i [] else []) else none:=by
 unfold aQt;rw [List.getElem?_append]
 by_cases hi:i<c.length
 .rw [if_pos hi]
  by_cases hk:i<k
  .rw [if_pos hk,if_pos (by rw [List.length_take];omega),List.getElem?_take_of_lt hk,List.getElem?_eq_getElem hi,aA7 hi]
  .rw [if_neg hk,if_neg (by rw [List.length_take];omega),List.getElem?_replicate,if_pos (by rw [List.length_take];omega)]
 .rw [if_neg hi]
  by_cases hk:i<(c.take k).length
  .rw [List.length_take] at hk;omega
  .rw [if_neg hk,List.getElem?_replicate,if_neg (by rw [List.length_take] at *;omega)]
theorem bEj (c:aA2) (k:Nat) (h:k<c.length):(aQt c k).set k c[k]=aQt c (k+1):=by
 apply List.ext_getElem?
 intro i
 rw [List.getElem?_set,bCh,bCh,aJo]
 by_cases he:k=i
 .subst he
  rw [if_pos rfl,if_pos h,if_pos h,if_pos (by omega),aA7 h]
 .rw [if_neg he]
  by_cases hi:i<c.length
  .rw [if_pos hi,if_pos hi]
   by_cases hk:i<k
   .rw [if_pos hk,if_pos (by omega)]
   .rw [if_neg hk,if_neg (by omega)]
  .rw [if_neg hi,if_neg hi]
theorem bFy:(prog.info? 22).map (fun i=>(i.zero,i.size,i.bytes))=some (some (.slice none 0 0),1,24):=by kernel_rfl
theorem aXw:(prog.info? 3).map (fun i=>(i.zero,i.size,i.bytes))=some (some (.int .i64 0),1,8):=by kernel_rfl
theorem aP7 (v:Value) (c:aA2) (w:World) (h:aD7 w v c) (hL:aI4 c=true) :
  Calls prog 132 #[v] w (bGq c w):=by
 obtain ⟨A,k,rfl,hR,_,_⟩:=h;have HR:=aA0 (fun w' (kk:Bel w w')=>hR.keep kk);obtain ⟨l1,l2⟩:=aJt hL;have HL2:=aA0 l2;clear hR l2 hL;obtain ⟨i0,hi0,hz0,hz1,hz2⟩:=info_parts bFy;obtain ⟨j0,hj0,hy0,hy1,hy2⟩:=info_parts aXw;go_enter func132,ntmps132
 go_wp2_with (at_make;refine aB6 _ rfl 66 (.tmp 7) (.tmp 7) rfl w.heap.size 22 i0 (.slice none 0 0) 1 underlying66 hi0 hz0 hz1 .i64 .i64 c.length rfl rfl (by rw [hz2];omega) (by unfold maxLen;omega) (by simp) ?_;intro gb w1 hown hb;have HW:=hb;rw [aB5 _ rfl] at hown;have HO:=aA0 (OwnC.zero hown rfl);clear hown hb)
 go_loopg [4,5,11] c.length (fun m _x _y z wr=>∃ (v:Nat) (hs:List Value),v<=c.length/\m=c.length-v/\z = .int .i64 v/\Hid (OwnC wr w.heap.size gb c.length (aQt c v) hs)/\Hid (aLz w.heap.size wr hs)/\Bel w wr)
 case atStart=>exact ⟨0,_,by omega,rfl,rfl,by show OwnC _ _ _ _ _ _;rw [bEk];exact HO.out,aLz.zero _ _ _,HW⟩
 case round =>
  clear HO HW;obtain ⟨v,hs,hv,rfl,rfl,HO,HSN,HW⟩:=hrel
  by_cases hlt:v<c.length
  .have hd0:decide (v<c.length)=true:=by simpa using hlt
   obtain ⟨b,o,R,rc,rfl,hbl,hcell,hI,_,_⟩:=(HR.out _ HW).at_ v hlt;have hle:=HL2.out _ (List.getElem_mem hlt);have HI:=aA0 hI;have HWZ:=aA0 HW.size;clear hI;have hbase:=aAb HO.out.own;have HSL:Hid (hs.length=c.length):=by have:=HO.out.own.1;rw [aJo] at this;show _=_;omega
   go_wp2_with (at_builtin;go_must (refine aIy _ rfl (.const (.slice none 0 0)) (.tmp 18) 22 rfl wr.heap.size 3 j0 (.int .i64 0) 1 8 underlying22 hj0 hy0 hy1 hy2 rfl (by decide) none 0 0 [] rfl (World.ownsRow_nil _ _ _ _) R c[v].length rc (c[v].map (Value.int .i64)) rfl HI.out.cells (aMk _) (by unfold maxLen;omega) (by omega) (Nat.le_refl _) ?_);intro A3 c3 w3 hown3 hgr3 _;rw [List.nil_append,Nat.zero_add] at hown3;have hb3:=(Bel.refl wr).grown hgr3 (fun k hk=>by cases hk);obtain ⟨_,hN⟩:=aN0 hown3;have HN:=aA0 hN;have HO3:=aA0 (HO.out.keep hb3);have y1:=aE4 HO3.out.own v (by rw [HSL.out];omega);have y2:=HO3.out.own.frozenAt v;have ygb:=(aAb HO3.out.own).2;replace HW:=HW.trans hb3;have HSN3:=aA0 (HSN.out.size hb3.size);clear hown3 hgr3 hb3 hN)
   go_roundg (c.length-(v+1))
   case rel =>
    have h3:=HN.out;refine ⟨v+1,hs.set v (.slice A3 c[v].length c3),by omega,rfl,by go_num,?_,aLz.size (w:=w3) (HSN3.out.set h3 HWZ.out v) (by simp),HW.setCell (by simp;omega) _⟩
    show OwnC _ _ _ _ _ _
    rw [<- bEj c v hlt];simpa using HO3.out.set (v:=v) (l:=c[v]) (A:=A3) (c':=c3) (by rw [aJo];exact hlt) h3.1 h3.2.1 h3.2.2.1 (h3.off (by omega))
   case measure=>omega
  .have hd0:decide (v<c.length)=false:=by simpa using hlt
   obtain rfl:v=c.length:=by omega
   go_wp2_with fail
   go_ret;have hO:=HO.out;rw [bEi] at hO;exact ⟨gb,_,hs,rfl,hO,HSN.out,HW⟩
theorem aAr {w:World} {B e e' size size' n n':Nat} {v v':Value} {xs xs':List Value} (h:w.ownsRow B e size v n xs) (h':w.ownsRow B e' size' v' n' xs') (hne:e≠e'):v'.ownBlock=none∨v'.ownBlock≠v.ownBlock:=by
 rcases h.2 with ⟨rfl,_⟩ | ⟨g,cap,cur,rfl,_,hg,_⟩
 .rcases h'.2 with ⟨rfl,_⟩ | ⟨g',cap',cur',rfl,_,hg',_⟩
  .exact .inl rfl
  .right;simp [Value.ownBlock]
 .rcases h'.2 with ⟨rfl,_⟩ | ⟨g',cap',cur',rfl,_,hg',_⟩
  .exact .inl rfl
  .right
   simp only [Value.ownBlock]
   intro he
   injection he with he
   subst he;rw [hg] at hg';injection hg' with hg'
   injection hg' with _ ht
   exact hne ht
def aEf (n:Nat) (bs:List (Nat × Nat)):List Value:=bs.map fun b=>Value.slice (some ⟨b.1,0,none⟩) n b.2
theorem aLt {n:Nat} {bs:List (Nat × Nat)} {u:Nat} {b:Nat × Nat} (h:bs[u]?=some b):(aEf n bs)[u]?=some (.slice (some ⟨b.1,0,none⟩) n b.2):=by
 unfold aEf;rw [List.getElem?_map,h];rfl
structure RowsC (w:World) (base:Nat) (B:Option Addr) (cap n:Nat) (d:aA2) (bs:List (Nat × Nat)):Prop where
 own:w.ownsRow base 22 1 (.slice B d.length cap) d.length (aEf n bs)
 rows:∀ (u:Nat) (x:List Int),d[u]?=some x->∃ b,bs[u]?=some b/\w.ownsRow base 3 1 (.slice (some ⟨b.1,0,none⟩) n b.2) n (x.map (Value.int .i64))
 apart:∀ (u v:Nat) (a b:Nat × Nat),bs[u]?=some a->bs[v]?=some b->u≠v->a.1≠b.1
theorem RowsC.nil (w:World) (base n:Nat):RowsC w base none 0 n [] []:=⟨World.ownsRow_nil _ _ _ _,fun u x h=>by simp at h,fun u v a b h=>by simp at h⟩
theorem RowsC.keep {w w':World} {base cap n:Nat} {B:Option Addr} {d:aA2} {bs:List (Nat × Nat)} (h:RowsC w base B cap n d bs) (k:Bel w w'):RowsC w' base B cap n d bs :=
 ⟨k.owns h.own,fun u x hx=>by
  obtain ⟨b,h1,h2⟩:=h.rows u x hx;exact ⟨b,h1,k.owns h2⟩,h.apart⟩
theorem RowsC.length {w:World} {base cap n:Nat} {B:Option Addr} {d:aA2} {bs:List (Nat × Nat)} (h:RowsC w base B cap n d bs):bs.length=d.length:=by
 have:=h.own.1;unfold aEf at this;rw [List.length_map] at this;omega
theorem RowsC.off {w:World} {base cap n m cap' g:Nat} {B:Option Addr} {d:aA2} {bs:List (Nat × Nat)} (h:RowsC w base B cap n d bs) {l:List Value} (hr:w.ownsRow base 3 1 (.slice (some ⟨g,0,none⟩) m cap') m l):some g≠(Value.slice B d.length cap).ownBlock:=by
 rcases aAr h.own hr (by decide) with e | e
 .simp [Value.ownBlock] at e
 .simpa [Value.ownBlock] using e
theorem RowsC.push {w w3 w':World} {base cap n:Nat} {B:Option Addr} {d:aA2} {bs:List (Nat × Nat)} (h:RowsC w base B cap n d bs) (hbase:base<=w.heap.size) {l:List Int} {g c:Nat} {m:Nat} (hm:d.length=m)
  (hN:w3.ownsRow w.heap.size 3 1 (.slice (some ⟨g,0,none⟩) n c) n (l.map (Value.int .i64))) (hb:Bel w w3) {o:Obj}
  {B':Option Addr} {cap':Nat} (hown:w'.ownsRow base 22 1 (.slice B' (m+1) cap') (m+1) (aEf n bs++[.slice (some ⟨g,0,none⟩) n c])) (hgr:(w3.alloc o).grownBy w' (Value.slice B m cap).ownBlock) :
  RowsC w' base B' cap' n (d++[l]) (bs++[(g,c)]):=by
 subst hm;have hk:=h.keep hb;have hlen:=h.length;have hg:Gr (Value.slice B d.length cap).ownBlock w3 w':=(Gr.of_bel ((Bel.refl w3).alloc o)).trans (Gr.grown hgr);have hN':=aB9 hN hbase;have hgl:=(aAb hN).1;refine ⟨by rw [List.length_append];unfold aEf at *;rw [List.map_append];exact hown,fun u x hx=>?_,fun u v a b ha hv huv=>?_⟩
 .by_cases hu:u<d.length
  .rw [List.getElem?_append_left hu] at hx
   obtain ⟨b,h1,h2⟩:=hk.rows u x hx;exact ⟨b,by rw [List.getElem?_append_left (by omega)];exact h1,bD5 h2 hg (hk.off h2)⟩
  .have hul:u=d.length:=by
    have:=(List.getElem?_eq_some_iff.1 hx).1;simp at this;omega
   subst hul;rw [List.getElem?_append_right (Nat.le_refl _)] at hx;obtain rfl:l=x:=by simpa using hx
   exact ⟨(g,c),by rw [List.getElem?_append_right (by omega),hlen];simp,bD5 hN' hg (hk.off hN')⟩
 .have old:∀ (u:Nat) (a:Nat × Nat),u<d.length->bs[u]?=some a->a.1<w.heap.size:=fun u a hu ha=>by
   obtain ⟨b,h1,h2⟩:=h.rows u d[u] (List.getElem?_eq_getElem hu);rw [h1] at ha;injection ha with ha
   subst ha;exact bNa h2
  have new:∀ (u:Nat) (a:Nat × Nat),¬ u<d.length->(bs++[(g,c)])[u]?=some a->u=d.length/\a=(g,c):=fun u a hu ha=>by
   have h1:=(List.getElem?_eq_some_iff.1 ha).1;simp at h1
   have h2:u=d.length:=by omega
   subst h2;rw [List.getElem?_append_right (by omega),hlen] at ha
   exact ⟨rfl,by simpa using ha.symm⟩
  by_cases h1:u<d.length
  .rw [List.getElem?_append_left (by omega)] at ha
   by_cases h2:v<d.length
   .rw [List.getElem?_append_left (by omega)] at hv
    exact h.apart u v a b ha hv huv
   .obtain ⟨_,rfl⟩:=new v b h2 hv
    have:=old u a h1 ha;show a.1≠g
    omega
  .obtain ⟨e1,rfl⟩:=new u a h1 ha
   by_cases h2:v<d.length
   .rw [List.getElem?_append_left (by omega)] at hv
    have:=old v b h2 hv;show g≠b.1
    omega
   .obtain ⟨e2,_⟩:=new v b h2 hv
    omega
theorem RowsC.conf {w:World} {base cap n g:Nat} {d:aA2} {bs:List (Nat × Nat)} (h:RowsC w base (some ⟨g,0,none⟩) cap n d bs):aD7 w (.slice (some ⟨g,0,none⟩) d.length cap) d:=by
 obtain ⟨h1,h2⟩:=aCv h.own;refine ⟨_,_,rfl,⟨rfl,fun u x hx=>?_⟩,h1,h2⟩
 obtain ⟨b,k1,k2⟩:=h.rows u x hx;obtain ⟨g',e1,_,hlt,hc,_⟩:=aAn h.own (aLt k1);obtain rfl:g=g':=by simpa using e1
 obtain ⟨rfl,k3⟩:=aN0 k2;exact ⟨g,0,rfl,hlt,_,b.2,by rw [Nat.zero_add,Nat.mul_one];exact hc,k3.1,k3.2.1,k3.2.2.1⟩
theorem RowsC.form {w:World} {base cap n:Nat} {B:Option Addr} {d:aA2} {bs:List (Nat × Nat)} (h:RowsC w base B cap n d bs) (hd:0<d.length):∃ g,B=some ⟨g,0,none⟩:=by
 obtain ⟨g,cap',hv,_⟩:=h.own.form hd;injection hv with hA
 exact ⟨g,hA⟩
theorem RowsC.put {w:World} {base cap n g:Nat} {d:aA2} {bs:List (Nat × Nat)} (h:RowsC w base (some ⟨g,0,none⟩) cap n d bs) {u:Nat} {b:Nat × Nat} {x:List Int} (hb:bs[u]?=some b) (hx:d[u]?=some x) (i:Nat) (y:Int) :
  RowsC (w.setCell ⟨b.1,i,none⟩ (.int .i64 y)) base (some ⟨g,0,none⟩) cap n (d.set u (x.set i y)) bs:=by
 have hFr:Fr b.1 w (w.setCell ⟨b.1,i,none⟩ (.int .i64 y)):=(Fr.refl b.1 w).set i _;obtain ⟨b',h1,h2⟩:=h.rows u x hx;rw [hb] at h1;injection h1 with h1
 subst h1;have hne:=h.off h2;refine ⟨by rw [List.length_set];exact aHl h.own hFr (fun e=>hne (by rw [e];rfl)),fun v z hz=>?_,h.apart⟩
 have hu:u<d.length:=(List.getElem?_eq_some_iff.1 hx).1
 by_cases he:u=v
 .subst he
  rw [List.getElem?_set_self hu] at hz;injection hz with hz
  subst hz;refine ⟨b,hb,?_⟩
  rw [List.map_set];exact (h2.stored i _).1
 .rw [List.getElem?_set_ne he] at hz
  obtain ⟨b2,k1,k2⟩:=h.rows v z hz;exact ⟨b2,k1,aHl k2 hFr (h.apart v u b2 b k1 hb (fun e=>he e.symm))⟩
structure BldC (w:World) (base gb n m:Nat) (d:aA2) (bs:List (Nat × Nat)):Prop where
 own:w.ownsRow base 22 1 (.slice (some ⟨gb,0,none⟩) n n) n (aEf m bs++List.replicate (n-d.length) (.slice none 0 0))
 rows:∀ (u:Nat) (x:List Int),d[u]?=some x->∃ b,bs[u]?=some b/\w.ownsRow base 3 1 (.slice (some ⟨b.1,0,none⟩) m b.2) m (x.map (Value.int .i64))
 apart:∀ (u v:Nat) (a b:Nat × Nat),bs[u]?=some a->bs[v]?=some b->u≠v->a.1≠b.1
 len:bs.length=d.length
theorem BldC.keep {w w':World} {base gb n m:Nat} {d:aA2} {bs:List (Nat × Nat)} (h:BldC w base gb n m d bs) (k:Bel w w'):BldC w' base gb n m d bs :=
 ⟨k.owns h.own,fun u x hx=>by
  obtain ⟨b,h1,h2⟩:=h.rows u x hx;exact ⟨b,h1,k.owns h2⟩,h.apart,h.len⟩
theorem BldC.off {w:World} {base gb n m:Nat} {d:aA2} {bs:List (Nat × Nat)} (h:BldC w base gb n m d bs) {m' g cap':Nat} {l:List Value} (hr:w.ownsRow base 3 1 (.slice (some ⟨g,0,none⟩) m' cap') m' l):g≠gb:=by
 rcases aAr h.own hr (by decide) with e | e
 .simp [Value.ownBlock] at e
 .simpa [Value.ownBlock] using e
theorem BldC.start {w:World} {base gb n m:Nat} (h:w.ownsRow base 22 1 (.slice (some ⟨gb,0,none⟩) n n) n (List.replicate n (.slice none 0 0))):BldC w base gb n m [] [] :=
 ⟨by simpa [aEf] using h,fun u x hx=>by simp at hx,fun u v a b ha=>by simp at ha,rfl⟩
theorem BldC.push {w w1:World} {base gb n m:Nat} {d:aA2} {bs:List (Nat × Nat)} (h:BldC w base gb n m d bs) (hd:d.length<n) (hbase:base<=w.heap.size) (hb:Bel w w1) {gr c:Nat} {l:List Int}
  (hN:w1.ownsRow w.heap.size 3 1 (.slice (some ⟨gr,0,none⟩) m c) m (l.map (Value.int .i64))) :
  BldC (w1.setCell ⟨gb,d.length,none⟩ (.slice (some ⟨gr,0,none⟩) m c)) base gb n m (d++[l]) (bs++[(gr,c)]):=by
 have hk:=h.keep hb;have hlen:=h.len;have hN':=aB9 hN hbase;have hgl:=(aAb hN).1;have hFr:Fr gb w1 (w1.setCell ⟨gb,d.length,none⟩ (.slice (some ⟨gr,0,none⟩) m c)):=(Fr.refl gb w1).set _ _;refine ⟨?_,fun u x hx=>?_,fun u v a b ha hv huv=>?_,by simp [hlen]⟩
 .have h1:=(hk.own.stored d.length (.slice (some ⟨gr,0,none⟩) m c)).1
  have e:(aEf m bs++List.replicate (n-d.length) (Value.slice none 0 0)).set d.length (.slice (some ⟨gr,0,none⟩) m c)=aEf m (bs++[(gr,c)])++List.replicate (n-(d++[l]).length) (.slice none 0 0):=by
   have hr:(aEf m bs).length=d.length:=by unfold aEf;rw [List.length_map,hlen]
   rw [List.set_append_right _ _ (by omega),hr,Nat.sub_self,show n-d.length=(n-(d.length+1))+1 by omega,List.replicate_succ,List.set_cons_zero]
   unfold aEf;rw [List.map_append,List.append_assoc,List.length_append];rfl
  rw [e] at h1;exact h1
 .by_cases hu:u<d.length
  .rw [List.getElem?_append_left hu] at hx
   obtain ⟨b,h1,h2⟩:=hk.rows u x hx;exact ⟨b,by rw [List.getElem?_append_left (by omega)];exact h1,aHl h2 hFr (hk.off h2)⟩
  .have hul:u=d.length:=by
    have:=(List.getElem?_eq_some_iff.1 hx).1;simp at this;omega
   subst hul;rw [List.getElem?_append_right (Nat.le_refl _)] at hx;obtain rfl:l=x:=by simpa using hx
   exact ⟨(gr,c),by rw [List.getElem?_append_right (by omega),hlen];simp,aHl hN' hFr (hk.off hN')⟩
 .have old:∀ (u:Nat) (a:Nat × Nat),u<d.length->bs[u]?=some a->a.1<w.heap.size:=fun u a hu ha=>by
   obtain ⟨b,h1,h2⟩:=h.rows u d[u] (List.getElem?_eq_getElem hu);rw [h1] at ha;injection ha with ha
   subst ha;exact bNa h2
  have new:∀ (u:Nat) (a:Nat × Nat),¬ u<d.length->(bs++[(gr,c)])[u]?=some a->u=d.length/\a=(gr,c):=fun u a hu ha=>by
   have h1:=(List.getElem?_eq_some_iff.1 ha).1;simp at h1
   have h2:u=d.length:=by omega
   subst h2;rw [List.getElem?_append_right (by omega),hlen] at ha
   exact ⟨rfl,by simpa using ha.symm⟩
  by_cases h1:u<d.length
  .rw [List.getElem?_append_left (by omega)] at ha
   by_cases h2:v<d.length
   .rw [List.getElem?_append_left (by omega)] at hv
    exact h.apart u v a b ha hv huv
   .obtain ⟨_,rfl⟩:=new v b h2 hv
    have:=old u a h1 ha;show a.1≠gr
    omega
  .obtain ⟨e1,rfl⟩:=new u a h1 ha
   by_cases h2:v<d.length
   .rw [List.getElem?_append_left (by omega)] at hv
    have:=old v b h2 hv;show gr≠b.1
    omega
   .obtain ⟨e2,_⟩:=new v b h2 hv
    omega
theorem BldC.put {w:World} {base gb n m:Nat} {d:aA2} {bs:List (Nat × Nat)} (h:BldC w base gb n m d bs) {u:Nat} {b:Nat × Nat} {x:List Int} (hb:bs[u]?=some b) (hx:d[u]?=some x) (i:Nat) (y:Int) :
  BldC (w.setCell ⟨b.1,i,none⟩ (.int .i64 y)) base gb n m (d.set u (x.set i y)) bs:=by
 have hFr:Fr b.1 w (w.setCell ⟨b.1,i,none⟩ (.int .i64 y)):=(Fr.refl b.1 w).set i _;obtain ⟨b',h1,h2⟩:=h.rows u x hx;rw [hb] at h1;injection h1 with h1
 subst h1;have hne:=h.off h2;refine ⟨by rw [List.length_set];exact aHl h.own hFr (fun e=>hne e.symm),fun v z hz=>?_,h.apart,by rw [List.length_set];exact h.len⟩
 have hu:u<d.length:=(List.getElem?_eq_some_iff.1 hx).1
 by_cases he:u=v
 .subst he
  rw [List.getElem?_set_self hu] at hz;injection hz with hz
  subst hz;refine ⟨b,hb,?_⟩
  rw [List.map_set];exact (h2.stored i _).1
 .rw [List.getElem?_set_ne he] at hz
  obtain ⟨b2,k1,k2⟩:=h.rows v z hz;exact ⟨b2,k1,aHl k2 hFr (h.apart v u b2 b k1 hb (fun e=>he e.symm))⟩
theorem BldC.done {w:World} {base gb n m:Nat} {d:aA2} {bs:List (Nat × Nat)} (h:BldC w base gb n m d bs) (hd:d.length=n):RowsC w base (some ⟨gb,0,none⟩) n m d bs:=by
 refine ⟨?_,h.rows,h.apart⟩
 have h1:=h.own;rw [hd,Nat.sub_self,List.replicate_zero,List.append_nil] at h1;rw [hd];exact h1
theorem BldC.head {w:World} {base gb n m:Nat} {d:aA2} {bs:List (Nat × Nat)} (h:BldC w base gb n m d bs) {u:Nat} {b:Nat × Nat} (hb:bs[u]?=some b):w.cell? ⟨gb,u,none⟩=some (.slice (some ⟨b.1,0,none⟩) m b.2):=by
 have hu:u<bs.length:=(List.getElem?_eq_some_iff.1 hb).1
 obtain ⟨g',e1,_,_,hc,_⟩:=aAn h.own (j:=u) (u := .slice (some ⟨b.1,0,none⟩) m b.2) (by
  rw [List.getElem?_append_left (by unfold aEf;rw [List.length_map];exact hu)]
  exact aLt hb)
 obtain rfl:gb=g':=by simpa using e1
 exact hc
theorem BldC.free {w:World} {base gb n m:Nat} {d:aA2} {bs:List (Nat × Nat)} (h:BldC w base gb n m d bs) (hd:d.length<n):w.cell? ⟨gb,d.length,none⟩=some (.slice none 0 0):=by
 obtain ⟨g',e1,_,_,hc,_⟩:=aAn h.own (j:=d.length) (u := .slice none 0 0) (by
  have hr:(aEf m bs).length=d.length:=by unfold aEf;rw [List.length_map,h.len]
  rw [List.getElem?_append_right (by omega),hr,Nat.sub_self,List.getElem?_replicate,if_pos (by omega)])
 obtain rfl:gb=g':=by simpa using e1
 exact hc
theorem RowsC.head {w:World} {base cap n g:Nat} {d:aA2} {bs:List (Nat × Nat)} (h:RowsC w base (some ⟨g,0,none⟩) cap n d bs) {u:Nat} {b:Nat × Nat} (hb:bs[u]?=some b):w.cell? ⟨g,u,none⟩=some (.slice (some ⟨b.1,0,none⟩) n b.2):=by
 obtain ⟨g',e1,_,_,hc,_⟩:=aAn h.own (aLt hb);obtain rfl:g=g':=by simpa using e1
 exact hc
def aK8 (T:List (List (Int × Int))):Prop:=∀ t∈T,∀ b∈t,-4096<=b.1/\b.1<=4096/\b.1<=b.2/\b.2<=80000
theorem aIv {p:Prg} {g:Graph} (hf:aD8 p g=0):aK8 (aAa p g):=by
 intro t ht b hb
 unfold aAa at ht;obtain ⟨v,hv,rfl⟩:=List.mem_map.1 ht;unfold aJc at hb;obtain ⟨x,hx,rfl⟩:=List.mem_map.1 hb;obtain ⟨h1,h2,h3⟩:=aAm hf;have hv':v<g.ports.length:=by rw [<- h2.ids];exact List.mem_range.1 hv
 obtain ⟨a1,a2,a3,a4⟩:=aJk (List.all_eq_true.1 (aCm h1).1 x hx) h2 hv';exact ⟨a1,a2,(aLl hf hx v).1,a4⟩
theorem aTr {p:Prg} {g:Graph} {v:Nat} (hv:v<(aAa p g).length):((aAa p g)[v]).length=p.vars.length:=by simp [aAa,aJc]
theorem aK8.ok {T:List (List (Int × Int))} (h:aK8 T):okN T:=fun t ht b hb=>(h t ht b hb).2.2.1
theorem aK8.width {T:List (List (Int × Int))} (h:aK8 T) {v:Nat} (hv:v<T.length) {j:Nat} (hj:j<T[v].length):1<=T[v][j].2-T[v][j].1+1/\T[v][j].2-T[v][j].1+1<=90000:=by
 have:=h _ (List.getElem_mem hv) _ (List.getElem_mem hj);omega
theorem aK8.at_ {T:List (List (Int × Int))} (h:aK8 T) {v:Nat} (hv:v<T.length) {j:Nat} (hj:j<T[v].length) : -4096<=T[v][j].1/\T[v][j].1<=4096/\T[v][j].1<=T[v][j].2/\T[v][j].2<=80000 :=
 h _ (List.getElem_mem hv) _ (List.getElem_mem hj)
def bNv (s:Int):Int × Int:=if 32768<s then (0,3) else (s,0)
theorem bBr {p:Prg} {g:Graph} (hf:aD8 p g=0):aDx p g=bNv (aE7 p g):=by
 unfold aDx bNv;rw [if_neg (by simpa using hf)]
theorem aVw {t:List (Int × Int)} {j:Nat} (hj:j<t.length):aAy (t.drop j)=(t[j].2-t[j].1+1)*aAy (t.drop (j+1)):=by
 rw [List.drop_eq_getElem_cons hj];rfl
theorem bDj {T:List (List (Int × Int))} {v:Nat} (hv:v<T.length):aAv (T.drop v)=aAy T[v]*aAv (T.drop (v+1)):=by
 rw [List.drop_eq_getElem_cons hv];rfl
def Prod (T:List (List (Int × Int))) (v j:Nat) (r:Int):Prop:=1<=r/\r<=32768/\r*(aAy ((T.getD v []).drop j)*aAv (T.drop (v+1)))=aAv T
def aTw (T:List (List (Int × Int))) (v:Nat) (r:Int):Prop:=1<=r/\r<=32768/\r*aAv (T.drop v)=aAv T
theorem aTw.start (T:List (List (Int × Int))):aTw T 0 1:=⟨by decide,by decide,by rw [List.drop_zero,Int.one_mul]⟩
theorem aTw.row {T:List (List (Int × Int))} {v:Nat} {r:Int} (h:aTw T v r) (hv:v<T.length):Prod T v 0 r:=by
 obtain ⟨h1,h2,h3⟩:=h;refine ⟨h1,h2,?_⟩
 rw [List.getD_eq_getElem?_getD,List.getElem?_eq_getElem hv,Option.getD_some,List.drop_zero,<- bDj hv];exact h3
theorem Prod.done {T:List (List (Int × Int))} {v:Nat} {r:Int} (hv:v<T.length) (h:Prod T v T[v].length r):aTw T (v+1) r:=by
 obtain ⟨h1,h2,h3⟩:=h;refine ⟨h1,h2,?_⟩
 rw [List.getD_eq_getElem?_getD,List.getElem?_eq_getElem hv,Option.getD_some,List.drop_length] at h3;rw [<- h3];show _=r*(1*_);rw [Int.one_mul]
theorem Prod.step {T:List (List (Int × Int))} {v j:Nat} {r:Int} (ho:okN T) (hv:v<T.length) (hj:j<T[v].length) (h:Prod T v j r) :
  (32768<r*(T[v][j].2-T[v][j].1+1)->32768<aAv T)/\(r*(T[v][j].2-T[v][j].1+1)<=32768->Prod T v (j+1) (r*(T[v][j].2-T[v][j].1+1))):=by
 obtain ⟨h1,h2,h3⟩:=h;have e:T.getD v []=T[v]:=by rw [List.getD_eq_getElem?_getD,List.getElem?_eq_getElem hv,Option.getD_some]
 rw [e,aVw hj,Int.mul_assoc,<- Int.mul_assoc r] at h3;have hok:okL T[v]:=ho _ (List.getElem_mem hv);have hb:=hok _ (List.getElem_mem hj);have hr:r<=r*(T[v][j].2-T[v][j].1+1):=bCw h1 (by omega)
 have h4:=aG5 (bD3 hok (j+1));have h5:=aH4 (bD4 ho (v+1));have h6:=Int.mul_pos h4 h5;have h7:=bCw (r:=r*(T[v][j].2-T[v][j].1+1)) (s:=aAy (T[v].drop (j+1))*aAv (T.drop (v+1))) (by omega) (by omega)
 refine ⟨fun h=>by omega,fun h=>⟨by omega,h,by rw [e];exact h3⟩⟩
theorem aTw.end_ {T:List (List (Int × Int))} {r:Int} (h:aTw T T.length r):bNv (aAv T)=(r,0):=by
 obtain ⟨h1,h2,h3⟩:=h;rw [List.drop_length] at h3;have:r=aAv T:=by rw [<- h3];show r=r*1;rw [Int.mul_one]
 unfold bNv;rw [if_neg (by omega),this]
theorem bL9 {s:Int} (h:32768<s):bNv s=(0,3):=if_pos h
theorem bA0 {p:Prg} (h:aBw p=0):1<=p.vars.length:=by
 unfold aBw at h;split at h
 .cases h
 .omega
def gF (p:Prg) (g:Graph) (c:aA2) (v:Nat):Int :=
 if 0<=aAk p.rules g c v then aS8 ((aEn (aAa p g)).getD v []) (aFe p g c v) (c.getD v []) else 0
def bCf (P D C:List Int) (x:Nat):Int:=aS8 (P.take x) (D.take x) (C.take x)
theorem aXd (P D C:List Int):bCf P D C 0=0:=by simp [bCf,aS8]
theorem aXa:∀ (P D C:List Int) (a b c:Int),P.length=D.length->D.length=C.length->aS8 (P++[a]) (D++[b]) (C++[c])=aS8 P D C+(b-c)*a
 | [],[],[],a,b,c,_,_=>by simp [aS8]
 | p :: P,d :: D,e :: C,a,b,c,h1,h2=>by
  have ih:=aXa P D C a b c (by simpa using h1) (by simpa using h2)
  show (d-e)*p+aS8 (P++[a]) (D++[b]) (C++[c])=(d-e)*p+aS8 P D C+(b-c)*a
  rw [ih,Int.add_assoc]
 | [],_ :: _,_,_,_,_,h,_=>by simp at h
 | _ :: _,[],_,_,_,_,h,_=>by simp at h
 | [],[],_ :: _,_,_,_,_,h=>by simp at h
 | _ :: _,_ :: _,[],_,_,_,_,h=>by simp at h
theorem aXc {P D C:List Int} {x:Nat} (h1:x<P.length) (h2:x<D.length) (h3:x<C.length):bCf P D C (x+1)=bCf P D C x+(D[x]-C[x])*P[x]:=by
 unfold bCf;rw [List.take_succ_eq_append_getElem h1,List.take_succ_eq_append_getElem h2,List.take_succ_eq_append_getElem h3,aXa _ _ _ _ _ _ (by simp;omega) (by simp;omega)]
theorem aXb {P D C:List Int} {x:Nat} (h1:P.length=x) (h2:D.length=x) (h3:C.length=x):bCf P D C x=aS8 P D C:=by
 unfold bCf;rw [List.take_of_length_le (by omega),List.take_of_length_le (by omega),List.take_of_length_le (by omega)]
theorem bOb {a b A B:Int} (h1 : -A<=a) (h2:a<=A) (h3:0<=b) (h4:b<=B) (hA:0<=A) : -(A*B)<=a*b/\a*b<=A*B:=by
 have h5:=Int.mul_le_mul_of_nonneg_right h2 h3;have h6:=Int.mul_le_mul_of_nonneg_right h1 h3;have h7:=Int.mul_le_mul_of_nonneg_left h4 hA;rw [Int.neg_mul] at h6;omega
structure RowSm (P D C:List Int) (n:Nat):Prop where
 lp:P.length=n
 ld:D.length=n
 lc:C.length=n
 le:n<=10
 p:∀ x (h:x<P.length),0<=P[x]/\P[x]<=32768
 d:∀ x (h:x<D.length) (h':x<C.length),-90000<=D[x]-C[x]/\D[x]-C[x]<=90000
 di:∀ x (h:x<D.length),-90000<=D[x]/\D[x]<=90000
 ci:∀ x (h:x<C.length),-90000<=C[x]/\C[x]<=90000
theorem RowSm.term {P D C:List Int} {n:Nat} (h:RowSm P D C n) {x:Nat} (hx:x<n) : -2949120000<=(D[x]'(by rw [h.ld];exact hx)-C[x]'(by rw [h.lc];exact hx))*P[x]'(by rw [h.lp];exact hx)/\(D[x]'(by rw [h.ld];exact hx)-C[x]'(by rw [h.lc];exact hx))*P[x]'(by rw [h.lp];exact hx)<=2949120000:=by
 have hp:=h.p x (by rw [h.lp];exact hx)
 have hd:=h.d x (by rw [h.ld];exact hx) (by rw [h.lc];exact hx)
 have:=bOb (A:=90000) (B:=32768) hd.1 hd.2 hp.1 hp.2 (by decide)
 omega
theorem RowSm.part {P D C:List Int} {n:Nat} (h:RowSm P D C n):∀ x:Nat,x<=n -> -(x*2949120000:Int)<=bCf P D C x/\bCf P D C x<=x*2949120000
 | 0,_=>by rw [aXd];simp
 | x+1,hx=>by
  have ih:=h.part x (by omega)
  have ht:=h.term (x:=x) (by omega)
  rw [aXc (by rw [h.lp];omega) (by rw [h.ld];omega) (by rw [h.lc];omega)]
  omega
theorem bN6 {p:Prg} {g:Graph} {c:aA2} (hm:aC0 p g c=0) (hsz:aE7 p g<=32768) (hL:p.vars.length<=10) {v:Nat} (hv:v<c.length) (hen:0<=aAk p.rules g c v) :
  RowSm ((aEn (aAa p g)).getD v []) (aFe p g c v) (c.getD v []) p.vars.length:=by
 have hf:=(aBr hm).1;have hS:=aIv hf;have hcl:=aBk hm;have hg:=(aAm hf).2.1;have hvt:v<(aAa p g).length:=by rw [aAs,hg.ids,<- hcl];exact hv
 have hrow:(aAa p g)[v].length=p.vars.length:=aTr hvt;have hin:=aR7 hm;have h1:=(aR1.1 hin).2 v hv hvt;have hst:=aR0.1 h1;have hst2:=aD3.1 (aT5 hm hv hen);have e1:c.getD v []=c[v]:=aA7 hv
 have e2:(aEn (aAa p g)).getD v []=aE5 (aAv ((aAa p g).drop (v+1))) (aAa p g)[v]:=by
  rw [List.getD_eq_getElem?_getD,aKv hvt];rfl
 have e3:aJc p g v=(aAa p g)[v]:=by simp [aAa]
 rw [e3] at hst2
 have bnd:∀ {l:List Int},(l.length=(aAa p g)[v].length/\∀ i,(h1:i<l.length)->(h2:i<(aAa p g)[v].length)->(aAa p g)[v][i].1<=l[i]/\l[i]<=(aAa p g)[v][i].2)->∀ i (h:i<l.length),-4096<=l[i]/\l[i]<=80000:=by
  intro l hl i hi
  have h2:i<(aAa p g)[v].length:=by rw [<- hl.1];exact hi
  have h3:=hl.2 i hi h2;have h4:=hS.at_ hvt h2;omega
 have bd:=bnd hst2;have bc:=bnd hst;rw [e1,e2];refine ⟨by rw [aEg,hrow],by rw [hst2.1,hrow],by rw [hst.1,hrow],hL,fun x hx=>?_,fun x h h'=>?_,fun x h=>?_,fun x h=>?_⟩
 .have hx':x<(aAa p g)[v].length:=by rwa [aEg] at hx
  have hpx:(aE5 (aAv ((aAa p g).drop (v+1))) (aAa p g)[v])[x]=aAy ((aAa p g)[v].drop (x+1))*aAv ((aAa p g).drop (v+1)):=aRn _ _ x hx;rw [hpx];have:=aRx (aQ3 hf) hsz hvt (x+1);omega
 .have a1:=bd x h
  have a2:=bc x h';omega
 .have a1:=bd x h;omega
 .have a1:=bc x h;omega
theorem bLm {p:Prg} {g:Graph} {c:aA2} (hm:aC0 p g c=0) (hsz:aE7 p g<=32768) (hL:p.vars.length<=10) {v:Nat} (hv:v<c.length) : -29491200000<=gF p g c v/\gF p g c v<=29491200000:=by
 unfold gF
 by_cases hen:0<=aAk p.rules g c v
 .rw [if_pos hen]
  have h:=bN6 hm hsz hL hv hen;have h2:=h.part _ (Nat.le_refl _);rw [aXb h.lp h.ld h.lc] at h2;omega
 .rw [if_neg hen];omega
theorem bQ2 {p:Prg} {g:Graph} {c:aA2} (hm:aC0 p g c=0) {S:Nat} (hS:S<4294967296) (hw:aB1 S (aAe p g c)=true) :
  bAz p g (aAd p g c S)=bAz p g c+((aAg S).map (gF p g c)).sum:=by
 have hf:=(aBr hm).1;have hg:=(aAm hf).2.1;have hcl:=aBk hm;have hle:=hg.le
 have hen:∀ v,v<c.length->S.testBit v=true->0<=aAk p.rules g c v:=fun v hv hb=>by
  have:=aAf.1 hw v (by omega) hb
  rw [aE0] at this;simp at this
  exact this.2
 have hlt:S<2 ^ c.length:=by
  apply Nat.lt_pow_two_of_testBit
  intro i hi
  cases hb:S.testBit i with
  | false=>rfl
  | true =>
   have:=aAf.1 hw i (aGv hS hb) hb;rw [aE0] at this;simp at this
   omega
 unfold bAz;rw [bCm _ _ _ (aR7 hm) (aR7 (aN7 hm hen))]
 congr 1
 refine bLn (n:=c.length) (by omega) hlt (by rw [aCw,aAs,hg.ids,hcl]) (aBe _ _ _ _) rfl (fun v hv hb=>?_) (fun v hv hb=>?_)
 .rw [aFa p g c S hv,if_pos hb];unfold gF;rw [if_pos (hen v hv hb)]
 .rw [aFa p g c S hv,hb];rfl
theorem bGa {l:List Nat} {f:Nat->Int} {B:Int} (h:∀ v∈l,-B<=f v/\f v<=B) : -(l.length*B:Int)<=(l.map f).sum/\(l.map f).sum<=l.length*B:=by
 induction l with
 | nil=>simp
 | cons v l ih =>
  have h1:=h v (List.mem_cons_self ..);have h2:=ih fun w hw=>h w (List.mem_cons_of_mem _ hw);have e:((l.length+1:Nat):Int)*B=(l.length:Int)*B+B:=by rw [Int.natCast_add,Int.add_mul];simp
  rw [List.map_cons,List.sum_cons,List.length_cons,e];omega
theorem aFy {g:Graph} {kind:Int} {E T:Nat} (hE:E<4294967296) (h:T∈(aAq g kind E).1):T<4294967296/\aB1 T E=true:=by
 have key:T&&&E=T->T<4294967296/\aB1 T E=true:=fun e=>by
  have hlt:T<4294967296:=by have:=aCo e;omega
  exact ⟨hlt,(aFn hlt hE).1 e⟩
 unfold aAq at h;split at h
 .cases h
 split at h
 .obtain ⟨v,hv,rfl⟩:=List.mem_map.1 h
  obtain ⟨hv1,hv2⟩:=aCb.1 hv;refine ⟨aLj hv1,?_⟩
  rw [aAf];intro u _ hu;rw [aEp] at hu;obtain rfl:v=u:=by simpa using hu
  exact hv2
 split at h
 .obtain rfl:T=E:=by simpa using h
  exact key (Nat.and_self _)
 split at h
 .cases h
 .rename_i h0 _ _ _
  have h1:=(List.mem_filter.1 h).1;have h2:=(aIr hE (E-lsb E+1) _ (by omega) aIq (aT4 hE h0) T).1 h1
  exact key h2.2
def aBx (x:Nat × Int):List Value:=[.int .u32 (x.1:Int),.int .i64 x.2]
theorem aIi (l:List (Nat × Int)) (i:Nat) (x:Nat × Int) (h:l[i]?=some x):(l.flatMap aBx)[i*2]?=some (.int .u32 (x.1:Int))/\(l.flatMap aBx)[i*2+1]?=some (.int .i64 x.2):=by
 induction l generalizing i with
 | nil=>simp at h
 | cons y l ih =>
  cases i with
  | zero =>
   obtain rfl:y=x:=by simpa using h
   simp [aBx]
  | succ i =>
   have:=ih i (by simpa using h)
   rw [show (i+1)*2+1=(i*2+1)+1+1 by omega,show (i+1)*2=i*2+1+1 by omega]
   simpa [aBx] using this
theorem aU4 (l:List (Nat × Int)) (i:Nat) (x:Nat × Int) (y:Int) (h:l[i]?=some x):(l.flatMap aBx).set (i*2+1) (.int .i64 y)=(l.set i (x.1,y)).flatMap aBx:=by
 induction l generalizing i with
 | nil=>simp at h
 | cons z l ih =>
  cases i with
  | zero =>
   obtain rfl:z=x:=by simpa using h
   simp [aBx]
  | succ i =>
   have:=ih i (by simpa using h)
   rw [show (i+1)*2+1=(i*2+1)+1+1 by omega]
   simpa [aBx] using this
theorem aWj (l:List (Nat × Int)) (i:Nat) (x:Nat × Int) (h:i<l.length):((l.flatMap aBx).set (i*2) (.int .u32 (x.1:Int))).set (i*2+1) (.int .i64 x.2)=(l.set i x).flatMap aBx:=by
 induction l generalizing i with
 | nil=>simp at h
 | cons z l ih =>
  cases i with
  | zero=>simp [aBx]
  | succ i =>
   have:=ih i (by simpa using h)
   rw [show (i+1)*2+1=(i*2+1)+1+1 by omega,show (i+1)*2=i*2+1+1 by omega]
   simpa [aBx] using this
theorem aQf (l:List (Nat × Int)):(l.flatMap aBx).length=l.length*2:=by
 induction l with
 | nil=>rfl
 | cons z l ih=>rw [List.flatMap_cons,List.length_append,ih,List.length_cons];simp [aBx];omega
theorem aU5 (m:Nat):(List.replicate m ((0,0):Nat × Int)).flatMap aBx=(madeCells (Value.agg #[.int .u32 0,.int .i64 0]).cells (m*2)).toList:=by
 apply List.ext_getElem?
 intro i
 by_cases hi:i<m*2
 .have h1:(List.replicate m ((0,0):Nat × Int))[i / 2]?=some (0,0):=by rw [List.getElem?_replicate,if_pos (by omega)]
  obtain ⟨f1,f2⟩:=aIi _ (i / 2) _ h1
  have hm:(madeCells (Value.agg #[.int .u32 0,.int .i64 0]).cells (m*2)).toList[i]?=some (if i % 2=0 then .int .u32 0 else .int .i64 0):=by
   simp [madeCells,Value.cells,hi]
   rcases Nat.mod_two_eq_zero_or_one i with h | h <;> simp [h]
  rw [hm]
  rcases Nat.mod_two_eq_zero_or_one i with h | h
  .rw [if_pos h,show i=i / 2*2 by omega];exact f1
  .rw [if_neg (by omega)];conv=>lhs;rw [show i=i / 2*2+1 by omega]
   exact f2
 .rw [List.getElem?_eq_none (by rw [aQf];simp;omega),List.getElem?_eq_none (by simp [madeCells];omega)]
def aGw (L:List (Nat × Int)) (i:Nat):List (Nat × Int):=L.take i++List.replicate (L.length-i) (0,0)
theorem bEh (L:List (Nat × Int)):aGw L 0=List.replicate L.length (0,0):=by simp [aGw]
theorem bEg (L:List (Nat × Int)):aGw L L.length=L:=by simp [aGw]
theorem aXg {L:List (Nat × Int)} {i:Nat} (h:i<=L.length):(aGw L i).length=L.length:=by simp [aGw];omega
theorem bHo {L:List (Nat × Int)} {i:Nat} (h:i<L.length):(aGw L i).set i L[i]=aGw L (i+1):=by
 unfold aGw;rw [List.set_append_right _ _ (by simp;omega),List.length_take,Nat.min_eq_left (Nat.le_of_lt h),Nat.sub_self,show L.length-i=(L.length-(i+1))+1 by omega,List.replicate_succ,List.set_cons_zero]
 conv=>rhs;rw [List.take_succ_eq_append_getElem h,List.append_assoc]
 rfl
theorem aBy {P:Program} {t:TypeId} {z:Value} {s b:Nat} (h:(P.info? t).map (fun i=>(i.zero,i.size,i.bytes))=some (some z,s,b)):∃ i,P.info? t=some i/\i.zero=some z/\i.size=s/\i.bytes=b:=by
 cases hi:P.info? t with
 | none=>rw [hi] at h;cases h
 | some i =>
  rw [hi] at h;simp at h
  exact ⟨i,rfl,h.1,h.2.1,h.2.2⟩
def tokC (t:Tok):List Value:=[.int .i64 (t.kind:Int),.int .i64 (t.at_:Int),.int .i64 (t.en:Int),.int .i64 (t.num:Int)]
def aHp (ts:List Tok):List Value:=ts.flatMap tokC
theorem aW4 (ts:List Tok) (t:Tok):aHp (ts++[t])=aHp ts++tokC t:=by simp [aHp]
theorem bK2:(prog.info? 119).map (fun i=>(i.zero,i.size,i.bytes))=some (some (.agg #[.int .i64 0,.int .i64 0,.int .i64 0,.int .i64 0]),4,32):=by kernel_rfl
theorem bHv (a b c d:Int):∀ u∈(#[Value.int .i64 a,Value.int .i64 b,Value.int .i64 c,Value.int .i64 d]:Array Value).toList,u.oneCell'=true:=by simp [Value.oneCell']
theorem bHz (w:World) (o o2:Obj):((w.alloc o).alloc o2).heap[w.heap.size+1]?=some o2:=by
 have:=aB4 (w.alloc o) o2
 rwa [World.size_alloc] at this
theorem bMu (l:List UInt8):aOn l<=l.length:=by
 match l with
 | []=>simp [aOn]
 | [c]=>simp [aOn];split <;> omega
 | c :: d :: r =>
  show (if signs2.contains (c,d) then 2 else if signs1.contains c then 1 else 0)<=_
  simp only [List.length_cons]
  split
  .omega
  .split <;> omega
theorem bD1 {T:ByteArray} {k:Nat} {t:Tok} (hk:k<T.size) (h:aV5 (aA4 T) k=some t):k<t.en/\t.en<=T.size/\t.at_=k/\t.kind<=3:=by
 rw [bD0 hk] at h;have hl:((aA4 T).drop k).length=T.size-k:=by rw [List.length_drop,aAx]
 split at h
 .rename_i h1
  split at h
  .injection h with h
   subst h;have hw:=aH7 aEe ((aA4 T).drop k) k;have hw2:=aNf (k:=k) (l:=(aA4 T).drop (k+1)) (p:=aEe) (c:=T[k]) (by unfold aEe;rw [h1];rfl)
   rw [<- aCe T hk] at hw2;refine ⟨?_,?_,rfl,?_⟩ <;> dsimp only <;> omega
  .cases h
 .split at h
  .rename_i h2
   have hw:=aH7 aEu ((aA4 T).drop k) k;have hw2:=aNf (k:=k) (l:=(aA4 T).drop (k+1)) (p:=aEu) (c:=T[k]) h2;rw [<- aCe T hk] at hw2;split at h
   .injection h with h
    subst h;refine ⟨?_,?_,rfl,?_⟩ <;> dsimp only <;> omega
   .cases h
  .have hs:=bMu ((aA4 T).drop k)
   split at h
   .cases h
   .injection h with h
    subst h;refine ⟨?_,?_,rfl,?_⟩ <;> dsimp only <;> omega
theorem bIo (T:ByteArray) (k:Nat) (t:Tok) (w:World) (hk:k<T.size) (hT:T.size<=1000000) (h:aV5 (aA4 T) k=some t) :
  Calls prog 53 #[.string T,.int .i64 (k:Int)] w fun e w'=>e = .returned (.tuple #[.agg #[.int .i64 (t.kind:Int),.int .i64 (t.at_:Int),.int .i64 (t.en:Int),.int .i64 (t.num:Int)],.int .i64 0])/\Bel w w':=bM4 T k t w hk hT h
theorem bMs (T:ByteArray) (ts:List Tok) (w:World) (hN:ts.length<=4000) (h:aH6 (aA4 T)=some ts) :
  Calls prog 26 #[.string T] w fun e w'=>(∃ A c,e = .returned (.tuple #[.slice A ts.length c,.int .i64 0,.int .i64 0])/\w'.ownsRow w.heap.size 119 4 (.slice A ts.length c) ts.length (aHp ts))/\Bel w w':=by
 unfold aH6 at h;split at h
 .rename_i hc
  rw [Bool.and_eq_true,decide_eq_true_iff,aAx] at hc;obtain ⟨hc,hT⟩:=hc
  have HC:Hid (∀ j (h:j<T.size),T[j].toNat≠35):=by
   intro j hj he
   have:=List.all_eq_true.1 hc T[j] (by
    have:=aCe T hj
    exact List.mem_of_mem_drop (i:=j) (by rw [this];exact List.mem_cons_self))
   have h2:T[j]=35:=by rw [<- UInt8.toNat_inj,he];rfl
   rw [h2] at this;simp at this
  have hT2:decide ((16384:Int)<(T.size:Int))=false:=by simp;omega
  obtain ⟨j0,hj0,hj1,hj2,hj3⟩:=aBy bK2;rw [aAx] at h;have HS:=aA0 h;clear h hc;obtain ⟨k0,hk0⟩:∃ k,aIc (aA4 T) 0=k:=⟨_,rfl⟩;have hk0le:k0<=T.size:=by have:=(aVx (aA4 T) 0).2;rw [aAx,hk0] at this;omega
  rw [hk0] at HS;have HK0:Hid (aIc ((aA4 T).drop 0) 0=k0):=by show _=_;simpa using hk0
  clear hk0;go_enter func26,ntmps26
  go_wp2_with (go_at_call 52;refine (bDm T 0 _ (by omega) (by omega) HC.out).mono ?_;rintro e w' ⟨rfl,rfl⟩;rw [HK0.out])
  go_loopg [5,6,7,8] (T.size+1) (fun m tv kv _x _y wr=>∃ (A:Option Addr) (c n k:Nat) (done rest:List Tok),m=n/\tv = .slice A done.length c/\kv = .int .i64 (k:Int)/\k<=T.size/\Hid (aOm (aA4 T) n k=some rest/\done++rest=ts)/\Hid (wr.ownsRow w.heap.size 119 4 (.slice A done.length c) done.length (aHp done))/\Bel w wr)
  case atStart=>exact ⟨none,0,_,k0,[],ts,rfl,rfl,rfl,hk0le,⟨HS.out,rfl⟩,World.ownsRow_nil _ _ _ _,Bel.refl _⟩
  case round =>
   obtain ⟨A,c,n,k,done,rest,rfl,rfl,rfl,hk,HR,HO,hbel⟩:=hrel;have hbs:=hbel.size
   by_cases hlt:k<T.size
   .have hd0:decide (k<T.size)=true:=by simpa using hlt
    obtain ⟨m,rfl⟩:∃ m,gk=m+1:=by
     match gk,HR.out.1 with
     | 0,h=>simp [aOm] at h
     | m+1,_=>exact ⟨m,rfl⟩
    have HX:=HR.out;rw [show aOm (aA4 T) (m+1) k=if k<(aA4 T).length then (match aV5 (aA4 T) k with | some t=>(match aOm (aA4 T) m (aIc ((aA4 T).drop t.en) t.en) with | some r=>some (t :: r) | none=>none) | none=>none) else some [] from rfl,if_pos (by rw [aAx];exact hlt)] at HX
    clear HR;obtain ⟨hx1,hx2⟩:=HX;cases hn:aV5 (aA4 T) k with
    | none=>rw [hn] at hx1;cases hx1
    | some t =>
     rw [hn] at hx1;dsimp only at hx1;cases hr:aOm (aA4 T) m (aIc ((aA4 T).drop t.en) t.en) with
     | none=>rw [hr] at hx1;cases hx1
     | some r =>
      rw [hr] at hx1;injection hx1 with hx1
      subst hx1;obtain ⟨t1,t2,t3,t4⟩:=bD1 hlt hn;clear t3 t4;have hlen:done.length+1+r.length=ts.length:=by rw [<- hx2];simp;omega
      have HT1:Hid ((done++[t])++r=ts):=by show _=_;rw [<- hx2];simp
      have HNX:=aA0 hn;have HRR:=aA0 hr;clear hx2 hn hr;obtain ⟨k2,hk2⟩:∃ k2,aIc ((aA4 T).drop t.en) t.en=k2:=⟨_,rfl⟩;have hk2le:k2<=T.size:=by have:=(aVx ((aA4 T).drop t.en) t.en).2;rw [List.length_drop,aAx,hk2] at this;omega
      rw [hk2] at HRR;have HK2:=aA0 hk2;clear hk2;have hd1:((done.length:Int)==4096)=false:=by simp;omega
      go_wp2_with (first
       | (go_at_call 53;refine (bIo T k t _ hlt (by omega) HNX.out).mono ?_;rintro e w1 ⟨rfl,hb1⟩;have hsz1:=hb1.size;have HO1:=aA0 (hb1.owns HO.out);have hbel1:=(hbel.trans hb1).alloc (.cells #[.int .i64 t.kind,.int .i64 t.at_,.int .i64 t.en,.int .i64 t.num] 119);have HO2:=aA0 (HO1.out.alloc (.cells #[.int .i64 t.kind,.int .i64 t.at_,.int .i64 t.en,.int .i64 t.num] 119)))
       | (at_builtin;refine aCh _ rfl (.tmp 32) (.tmp 34) 73 rfl w.heap.size 119 j0 (.agg #[.int .i64 0,.int .i64 0,.int .i64 0,.int .i64 0]) 4 32 underlying73 hj0 hj1 hj2 hj3 rfl (by decide) A done.length c (aHp done) (by simp [Act.eval]) (HO2.out.alloc _) (w1.heap.size+1) #[.int .i64 t.kind,.int .i64 t.at_,.int .i64 t.en,.int .i64 t.num] 119 (0,0) (by simp [Act.eval]) (bHz _ _ _) rfl (bHv _ _ _ _) (by unfold maxLen;omega) (by omega) (by simp;omega) ?_;intro A' c' w2 hown2 hgr2 hat2;have hb2:Bel w w2:=(hbel1.alloc _).push (HO2.out.alloc _) hgr2;have hB2:=((Blk.new w1 #[.int .i64 t.kind,.int .i64 t.at_,.int .i64 t.en,.int .i64 t.num] 119).alloc (.cells #[.int .i64 t.kind,.int .i64 t.at_,.int .i64 t.en,.int .i64 t.num] 119)).grown hgr2 (fun e=>by have:=(HO1.out.lt _ e.symm).2;omega);have hen:=hB2.cell 2 (v := .int .i64 t.en) rfl;have hlt2:=hB2.lt)
       | (go_at_call 52;refine (bDm T t.en _ (by omega) (by omega) HC.out).mono ?_;rintro e w' ⟨rfl,rfl⟩;rw [HK2.out]))
      go_roundg m
      case rel =>
       have hl1:(done++[t]).length=done.length+1:=by simp
       refine ⟨A',c',m,k2,done++[t],r,rfl,by rw [hl1],rfl,hk2le,⟨HRR.out,HT1.out⟩,?_,hb2⟩
       show w2.ownsRow w.heap.size 119 4 (.slice A' (done++[t]).length c') (done++[t]).length (aHp (done++[t]))
       rw [hl1,aW4];exact hown2
      case measure=>omega
   .have hd0:decide (k<T.size)=false:=by simpa using hlt
    have HE:Hid (done=ts):=by
     have HX:=HR.out
     match gk,HX with
     | 0,HX=>simp [aOm] at HX
     | m+1,HX =>
      rw [show aOm (aA4 T) (m+1) k=if k<(aA4 T).length then (match aV5 (aA4 T) k with | some t=>(match aOm (aA4 T) m (aIc ((aA4 T).drop t.en) t.en) with | some r=>some (t :: r) | none=>none) | none=>none) else some [] from rfl,if_neg (by rw [aAx];exact hlt)] at HX
      obtain ⟨h1,h2⟩:=HX;injection h1 with h1
      subst h1;show done=ts
      simpa using h2
    go_wp2
    go_ret3
    have:=HE.out;subst this;exact ⟨⟨A,c,rfl,HO.out⟩,hbel⟩
 .cases h
def bGt (B:Nat) (w:World) (b o:Nat) (t:Tok):Prop:=b<B/\w.cell? ⟨b,o,none⟩=some (.int .i64 (t.kind:Int))/\w.cell? ⟨b,o+1,none⟩=some (.int .i64 (t.at_:Int))/\w.cell? ⟨b,o+2,none⟩=some (.int .i64 (t.en:Int))/\w.cell? ⟨b,o+3,none⟩=some (.int .i64 (t.num:Int))
def bNl (B:Nat) (w:World) (A:Option Addr) (ts:List Tok):Prop:=aAc 4 (bGt B) w A ts.length ts
theorem bNl.agr {B:Nat} {w w':World} {A:Option Addr} {ts:List Tok} {E:Nat->Prop} (h:bNl B w A ts) (k:Agr E w w') (hE:∀ q,E q->B<=q):bNl B w' A ts :=
 ⟨h.1,fun i x hx=>by
  obtain ⟨b,o,e,hb,h1,h2,h3,h4,h5⟩:=h.2 i x hx
  have hc:∀ o,w'.cell? ⟨b,o,none⟩=w.cell? ⟨b,o,none⟩:=fun o=>by
   unfold World.cell?;rw [k.block b hb (fun hq=>by have:=hE b hq;omega)]
  exact ⟨b,o,e,Nat.lt_of_lt_of_le hb k.size,h1,by rw [hc];exact h2,by rw [hc];exact h3,by rw [hc];exact h4,by rw [hc];exact h5⟩⟩
def bNg (T:ByteArray) (t:Tok):Prop:=t.at_<=t.en/\t.en<=T.size
structure Rd (w:World) (B:Nat) (T:ByteArray) (A:Option Addr) (c:Nat) (ts:List Tok) (v2 v3 v4 v5 v6:Value):Prop where
 blk:Blk w B #[.string T,.slice A ts.length c,v2,v3,v4,v5,v6] 81
 tok:bNl B w A ts
 cap:ts.length<=c/\c<=maxLen
 few:ts.length<=4000
 ok:∀ t∈ts,bNg T t
 big:T.size<=16384
def RdX (w:World) (B:Nat) (T:ByteArray) (ts:List Tok) (v2 v3 v4 v5 v6:Value):Prop:=∃ A c,Rd w B T A c ts v2 v3 v4 v5 v6
abbrev But (B:Nat) (w w':World):Prop:=Agr (fun q=>q=B) w w'
theorem But.of_bel {B:Nat} {w w':World} (h:Bel w w'):But B w w':=⟨h.os,h.tape,h.output,h.size,fun k hk _=>h.block k hk⟩
theorem Rd.bel {w w':World} {B:Nat} {T:ByteArray} {A:Option Addr} {c:Nat} {ts:List Tok} {v2 v3 v4 v5 v6:Value} (h:Rd w B T A c ts v2 v3 v4 v5 v6) (k:Bel w w'):Rd w' B T A c ts v2 v3 v4 v5 v6 :=
 ⟨h.blk.keep k,h.tok.agr (E:=fun q=>q=B) (But.of_bel k) (fun q e=>by omega),h.cap,h.few,h.ok,h.big⟩
theorem RdX.bel {w w':World} {B:Nat} {T:ByteArray} {ts:List Tok} {v2 v3 v4 v5 v6:Value} (h:RdX w B T ts v2 v3 v4 v5 v6) (k:Bel w w'):RdX w' B T ts v2 v3 v4 v5 v6:=by
 obtain ⟨A,c,h⟩:=h;exact ⟨A,c,h.bel k⟩
theorem Rd.lt {w:World} {B:Nat} {T:ByteArray} {A:Option Addr} {c:Nat} {ts:List Tok} {v2 v3 v4 v5 v6:Value} (h:Rd w B T A c ts v2 v3 v4 v5 v6):B<w.heap.size:=h.blk.lt
theorem Rd.cells {w:World} {B:Nat} {T:ByteArray} {A:Option Addr} {c:Nat} {ts:List Tok} {v2 v3 v4 v5 v6:Value} (h:Rd w B T A c ts v2 v3 v4 v5 v6) :
  w.cell? ⟨B,0,none⟩=some (.string T)/\w.cell? ⟨B,1,none⟩=some (.slice A ts.length c)/\w.cell? ⟨B,2,none⟩=some v2/\w.frozen? ⟨B,1,none⟩=false:=⟨h.blk.cell 0 rfl,h.blk.cell 1 rfl,h.blk.cell 2 rfl,h.blk.frozen 1⟩
theorem Rd.first {w:World} {B:Nat} {T:ByteArray} {A:Option Addr} {c:Nat} {t:Tok} {r:List Tok} {v2 v3 v4 v5 v6:Value} (h:Rd w B T A c (t :: r) v2 v3 v4 v5 v6) :
  ∃ b o,A=some ⟨b,o,none⟩/\b<B/\w.cell? ⟨b,o,none⟩=some (.int .i64 (t.kind:Int))/\w.cell? ⟨b,o+1,none⟩=some (.int .i64 (t.at_:Int))/\w.cell? ⟨b,o+2,none⟩=some (.int .i64 (t.en:Int))/\w.cell? ⟨b,o+3,none⟩=some (.int .i64 (t.num:Int)):=by
 obtain ⟨b,o,e,_,h1,h2,h3,h4,h5⟩:=h.tok.2 0 t rfl;simp only [Nat.zero_mul,Nat.add_zero] at h2 h3 h4 h5
 exact ⟨b,o,e,h1,h2,h3,h4,h5⟩
theorem aFt {w:World} {B:Nat} {T:ByteArray} {ts:List Tok} {v2 v3 v4 v5 v6:Value} (h:RdX w B T ts v2 v3 v4 v5 v6) :
  Calls prog 105 #[.pointer (some ⟨B,0,none⟩)] w fun e w'=>e = .returned (.int .i64 (aJ6 ts:Nat))/\w=w':=by
 obtain ⟨A,c,h⟩:=h;obtain ⟨c0,c1,c2,_⟩:=h.cells;have hlt:=h.lt;cases ts with
 | nil =>
  go_enter func105,ntmps105;go_wp2;go_ret;exact ⟨rfl,rfl⟩
 | cons t r =>
  obtain ⟨b,o,rfl,hb,t0,t1,t2,t3⟩:=h.first
  clear h;go_enter func105,ntmps105;go_wp2;go_ret;exact ⟨rfl,rfl⟩
theorem bLe {w:World} {B:Nat} {T:ByteArray} {ts:List Tok} {v2 v3 v4 v5 v6:Value} (h:RdX w B T ts v2 v3 v4 v5 v6) :
  Calls prog 61 #[.pointer (some ⟨B,0,none⟩)] w fun e w'=>e = .returned (.bool ts.isEmpty)/\w=w':=by
 obtain ⟨A,c,h⟩:=h;obtain ⟨c0,c1,c2,_⟩:=h.cells;have hlt:=h.lt;cases ts with
 | nil =>
  go_enter func61,ntmps61;go_wp2;go_ret;exact ⟨rfl,rfl⟩
 | cons t r =>
  clear h;have hl:(((t :: r).length:Int)==0)=false:=by simp;omega
  go_enter func61,ntmps61;go_wp2;go_ret;exact ⟨rfl,rfl⟩
theorem bJ4 {T:ByteArray} {t:Tok} {r:List Tok}:T.extract t.at_ t.en=ba (aBa (aA4 T) (t :: r)):=Lib.extract_eq T t.at_ t.en
theorem aC1 {w:World} {B:Nat} {T:ByteArray} {ts:List Tok} {v2 v3 v4 v5 v6:Value} (h:RdX w B T ts v2 v3 v4 v5 v6) :
  Calls prog 104 #[.pointer (some ⟨B,0,none⟩)] w fun e w'=>e = .returned (.string (ba (aBa (aA4 T) ts)))/\Bel w w':=by
 obtain ⟨A,c,h⟩:=h;obtain ⟨c0,c1,c2,_⟩:=h.cells;have hlt:=h.lt;cases ts with
 | nil =>
  go_enter func104,ntmps104;go_wp2;go_ret;exact ⟨rfl,Bel.refl w⟩
 | cons t r =>
  obtain ⟨b,o,rfl,hb,t0,t1,t2,t3⟩:=h.first
  obtain ⟨k1,k2⟩:=h.ok t (by simp)
  have HP:=aA0 (bJ4 (T:=T) (t:=t) (r:=r));clear h;have d1:decide (t.at_<=t.en)=true:=by simpa using k1
  have d2:decide (t.en<=T.size)=true:=by simpa using k2
  have hl:(((t :: r).length:Int)==0)=false:=by simp;omega
  go_enter func104,ntmps104;go_wp2
  go_quiet (fail)
  go_wp2;go_ret;exact ⟨by rw [<- HP.out];rfl,(Bel.refl w).drewN _⟩
theorem bGe:(prog.info? 119).map (fun i=>(i.zero,i.size,i.bytes))=some (some (.agg #[.int .i64 0,.int .i64 0,.int .i64 0,.int .i64 0]),4,32):=by kernel_rfl
theorem aU8 (w:World) (p:Addr) (v:Value) (cs:Array Value) (t:TypeId) (o:Obj):Blk (((w.setCell p v).alloc (.cells cs t)).alloc o) w.heap.size cs t:=by
 have h:=(Blk.new (w.setCell p v) cs t).alloc o;have e:(w.setCell p v).heap.size=w.heap.size:=by simp
 rwa [e] at h
theorem aEk {w:World} {B:Nat} {T:ByteArray} {t:Tok} {r:List Tok} {v2 v3 v4 v5 v6:Value} (h:RdX w B T (t :: r) v2 v3 v4 v5 v6) :
  Calls prog 107 #[.pointer (some ⟨B,0,none⟩)] w fun e w'=>e = .returned (.agg #[.int .i64 (t.kind:Int),.int .i64 (t.at_:Int),.int .i64 (t.en:Int),.int .i64 (t.num:Int)])/\But B w w'/\RdX w' B T r v2 v3 v4 v5 v6:=by
 obtain ⟨A,c,h⟩:=h;obtain ⟨c0,c1,c2,fz⟩:=h.cells;have hlt:=h.lt;obtain ⟨b,o,rfl,hb,t0,t1,t2,t3⟩:=h.first
 obtain ⟨j0,hj0,hj1,hj2,hj3⟩:=aBy bGe;obtain ⟨A2,hcut,hR⟩:=bJn (P:=prog) underlying73 hj0 hj2 (some ⟨b,o,none⟩) (t :: r).length c 1 (by simp) h.cap.1
 have HR:=aA0 (hR (bGt B) w (t :: r) h.tok);have HH:=aA0 h;clear h hR;have hbw:b<w.heap.size:=by omega
 have hcut2:∀ w,(Instr.slice 73 (.slice (some ⟨b,o,none⟩) (r.length+1) c) (some (.int .i64 1)) none none).run prog w = .ok (.slice A2 r.length (c-1)) w:=fun w=>hcut .i64 w;clear hcut;have hl:(((t :: r).length:Int)==0)=false:=by simp;omega
 go_enter func107,ntmps107;go_wp2;obtain ⟨y0,y1,y2,y3⟩:=aKd (aU8 w ⟨B,1,none⟩ (.slice A2 r.length (c-1)) #[.int .i64 (t.kind:Int),.int .i64 (t.at_:Int),.int .i64 (t.en:Int),.int .i64 (t.num:Int)] 119 (.cells #[.int .i64 (t.kind:Int),.int .i64 (t.at_:Int),.int .i64 (t.en:Int),.int .i64 (t.num:Int)] 119));refine bodyPost_ret (v := .agg #[.int .i64 (t.kind:Int),.int .i64 (t.at_:Int),.int .i64 (t.en:Int),.int .i64 (t.num:Int)]) (by simp [results,Tryz.results107,go_sem,y0,y1,y2,y3];try go_simp) rfl ?_
 have hag:But B w (w.setCell ⟨B,1,none⟩ (.slice A2 r.length (c-1))):=Agr.setCell (E:=fun q=>q=B) w _ _ rfl;have hbel:=((Bel.refl (w.setCell ⟨B,1,none⟩ (.slice A2 r.length (c-1)))).alloc (.cells #[.int .i64 (t.kind:Int),.int .i64 (t.at_:Int),.int .i64 (t.en:Int),.int .i64 (t.num:Int)] 119)).alloc (.cells #[.int .i64 (t.kind:Int),.int .i64 (t.at_:Int),.int .i64 (t.en:Int),.int .i64 (t.num:Int)] 119);have hall:=hag.trans (But.of_bel hbel);refine ⟨rfl,hall,A2,c-1,(HH.out.blk.set 1 _).keep hbel,?_,?_,?_,fun x hx=>HH.out.ok x (List.mem_cons_of_mem _ hx),HH.out.big⟩
 .exact bNl.agr (show bNl B w A2 r from HR.out) hall (fun q e=>by omega)
 .have:=HH.out.cap;simp at this;omega
 .have:=HH.out.few;simp at this;omega
theorem aD0 (l:List UInt8):(ba l).toList=l:=by rw [ByteArray.toList_eq];rfl
theorem aCl (l:List UInt8):aA4 (ba l)=l:=rfl
theorem aCs (s:ByteArray):s.toList=aA4 s:=ByteArray.toList_eq s
theorem aWg {l w:Wd} {ts r:List Tok} (h:aAh l w ts=some r) (hw:w≠[]):aBa l ts=w/\∃ t,ts=t :: r:=by
 unfold aAh at h;split at h
 .rename_i hp
  injection h with h
  refine ⟨hp,?_⟩
  cases ts with
  | nil=>exact absurd hp.symm hw
  | cons t r'=>exact ⟨t,by rw [<- h];rfl⟩
 .cases h
theorem aWf {l w:Wd} {ts:List Tok} (h:aAh l w ts=none):aBa l ts≠w:=by
 unfold aAh at h;split at h
 .cases h
 .assumption
theorem aC2 {w:World} {B:Nat} {T:ByteArray} {ts r:List Tok} {v2 v3 v4 v5 v6:Value} (h:RdX w B T ts v2 v3 v4 v5 v6) (s:ByteArray) (hs:aA4 s≠[]) (ha:aAh (aA4 T) (aA4 s) ts=some r) :
  Calls prog 103 #[.pointer (some ⟨B,0,none⟩),.string s] w fun e w'=>e = .returned (.bool true)/\But B w w'/\RdX w' B T r v2 v3 v4 v5 v6:=by
 obtain ⟨hp,t,rfl⟩:=aWg ha hs;have hd:((ba (aA4 s)).toList==s.toList)=true:=by rw [aD0,aCs];simp
 have HP:=aA0 hp;have HH:=aA0 h;clear h hp ha hs;go_enter func103,ntmps103
 go_wp2_with (first
  | (go_at_call 104;refine (aC1 HH.out).mono ?_;rintro e w1 ⟨rfl,hb⟩;rw [HP.out];have HH1:=aA0 (HH.out.bel hb);have HB:=aA0 hb;clear hb)
  | (go_at_call 107;refine (aEk HH1.out).mono ?_;rintro e w2 ⟨rfl,hb,hr⟩;have HB2:=aA0 hb;have HR:=aA0 hr;clear hb hr))
 go_ret;exact ⟨rfl,(But.of_bel HB.out).trans HB2.out,HR.out⟩
theorem aBu {w:World} {B:Nat} {T:ByteArray} {ts:List Tok} {v2 v3 v4 v5 v6:Value} (h:RdX w B T ts v2 v3 v4 v5 v6) (s:ByteArray) (ha:aAh (aA4 T) (aA4 s) ts=none) :
  Calls prog 103 #[.pointer (some ⟨B,0,none⟩),.string s] w fun e w'=>e = .returned (.bool false)/\But B w w'/\RdX w' B T ts v2 v3 v4 v5 v6:=by
 have hp:=aWf ha;have hd:((ba (aBa (aA4 T) ts)).toList==s.toList)=false:=by rw [aD0,aCs];simpa using hp
 have HH:=aA0 h;clear h hp ha;go_enter func103,ntmps103
 go_wp2_with (go_at_call 104;refine (aC1 HH.out).mono ?_;rintro e w1 ⟨rfl,hb⟩;have HH1:=aA0 (HH.out.bel hb);have HB:=aA0 hb;clear hb)
 go_ret;exact ⟨rfl,But.of_bel HB.out,HH1.out⟩
theorem aC9 {w:World} {B:Nat} {T:ByteArray} {ts r:List Tok} {v2 v3 v4 v5 v6:Value} (h:RdX w B T ts v2 v3 v4 v5 v6) (s:ByteArray) (hs:aA4 s≠[]) (ha:aAh (aA4 T) (aA4 s) ts=some r) :
  Calls prog 56 #[.pointer (some ⟨B,0,none⟩),.string s] w fun e w'=>(∃ x,e = .returned x)/\But B w w'/\RdX w' B T r v2 v3 v4 v5 v6:=by
 have HH:=aA0 h;have HS:=aA0 hs;have HA:=aA0 ha;clear h ha hs;go_enter func56,ntmps56
 go_wp2_with (go_at_call 103;refine (aC2 HH.out s HS.out HA.out).mono ?_;rintro e w1 ⟨rfl,hb,hr⟩;have HB:=aA0 hb;have HR:=aA0 hr;clear hb hr)
 go_end0
 exact ⟨⟨_,rfl⟩,HB.out,HR.out⟩
theorem aLq (op:Nat) (w:World) (h:op<=100) :
  Calls prog 166 #[.int .i64 (op:Int)] w fun e w'=>e = .returned (.int .i64 (aY3 op:Nat))/\w=w':=by
 go_enter func166,ntmps166;go_wp2
 all_goals (go_ret;refine ⟨aA9 ?_,rfl⟩;simp only [beq_iff_eq,beq_eq_false_iff_ne,ne_eq] at *;unfold aY3;(repeat' split) <;> omega)
def StrAt (w:World) (b o:Nat) (x:Wd):Prop:=w.cell? ⟨b,o,none⟩=some (.string (ba x))
def aTy:=aAc 1 StrAt
theorem aTy.at_ {w:World} {A:Option Addr} {n:Nat} {xs:List Wd} (h:aTy w A n xs) (k:Nat) (hk:k<xs.length) :
  ∃ b o,A=some ⟨b,o,none⟩/\b<w.heap.size/\w.cell? ⟨b,o+k,none⟩=some (.string (ba xs[k])):=by
 obtain ⟨b,o,e,hb,h⟩:=aAc.at_ h k hk;exact ⟨b,o,e,hb,by rw [Nat.mul_one] at h;exact h⟩
theorem bHr {w:Wd} {f j:Nat} {l:List Wd} (hw:w≠[]) (hj:j<l.length) (h1:∀ i (hi:i<j),l[i]≠w) (h2:l[j]=w):aG7 w f l=f+j:=by
 unfold aG7;rw [if_neg hw,List.findIdx?_eq_some_iff_getElem.2 ⟨hj,by simpa using h2,fun i hi=>by simpa using h1 i hi⟩]
theorem bEr {w:Wd} {f:Nat} {l:List Wd} (hw:w≠[]) (h1:∀ i (hi:i<l.length),l[i]≠w):aG7 w f l=0:=by
 unfold aG7
 rw [if_neg hw,List.findIdx?_eq_none_iff.2 (fun x hx=>by
  obtain ⟨i,hi,rfl⟩:=List.getElem_of_mem hx
  simpa using h1 i hi)]
theorem aPu (s:ByteArray) (f:Nat) (A:Option Addr) (c:Nat) (l:List Wd) (w:World) (hf:f<=1000) (hl:l.length<=1000) (h:aTy w A l.length l) :
  Calls prog 182 #[.string s,.int .i64 (f:Int),.slice A l.length c] w fun e w'=>e = .returned (.int .i64 (aG7 (aA4 s) f l:Nat))/\w=w':=by
 have H:=aA0 h;clear h
 by_cases hw:aA4 s=[]
 .have d0:(s.toList==[])=true:=by rw [aCs,hw];rfl
  have HE:Hid (aG7 (aA4 s) f l=0):=by show _=_;unfold aG7;rw [if_pos hw]
  clear hw;go_enter func182,ntmps182;go_wp2;go_ret;exact ⟨aA9 (by rw [HE.out];rfl),rfl⟩
 .have d0:(s.toList==[])=false:=by rw [aCs];simpa using hw
  have HW:=aA0 hw;clear hw;go_enter func182,ntmps182;go_wp2
  go_loopg [7,8,13] l.length (fun m _x _y z wr=>∃ j:Nat,j<=l.length/\m=l.length-j/\Hid (∀ i (hi:i<l.length),i<j->l[i]≠aA4 s)/\z = .int .i64 j/\w=wr)
  case atStart=>exact ⟨0,by omega,rfl,fun i hi h=>by omega,rfl,rfl⟩
  case round =>
   obtain ⟨j,hj,rfl,HK,rfl,rfl⟩:=hrel
   by_cases hlt:j<l.length
   .have hd0:decide (j<l.length)=true:=by simpa using hlt
    obtain ⟨b,o,rfl,hb,hc⟩:=H.out.at_ j hlt
    by_cases he:l[j]=aA4 s
    .have HG:=aA0 (bHr (f:=f) HW.out hlt (fun i hi=>HK.out i (by omega) hi) he)
     rw [he] at hc;have hd:((ba (aA4 s)).toList==s.toList)=true:=by rw [aD0,aCs];simp
     clear he;go_wp2;go_ret;refine ⟨aA9 ?_,rfl⟩
     rw [HG.out];have:IntKind.i64.wrap ((f:Int)+(j:Int))=((f+j:Nat):Int):=by rw [IntWalk.i64_in _ (by omega)];omega
     first | exact this | (try omega)
    .have HG:Hid (∀ i (hi:i<l.length),i<j+1->l[i]≠aA4 s):=by
      intro i hi h
      by_cases hij:i=j
      .subst hij;exact he
      .exact HK.out i hi (by omega)
     have hd:((ba l[j]).toList==s.toList)=false:=by rw [aD0,aCs];simpa using he
     clear he;go_wp2
     go_roundg (l.length-(j+1))
     case rel=>exact ⟨j+1,by omega,rfl,HG,by go_num,rfl⟩
     case measure=>omega
   .have hd0:decide (j<l.length)=false:=by simpa using hlt
    have HG:=aA0 (bEr (f:=f) HW.out (fun i hi=>HK.out i hi (by omega)))
    go_wp2;go_ret;exact ⟨aA9 (by rw [HG.out];rfl),rfl⟩
def bNt:Array Value:=#[.string (ba [42]),.string (ba [47]),.string (ba [37]),.string (ba [43]),.string (ba [45]),.string (ba [61,61]),.string (ba [33,61]),.string (ba [60]),.string (ba [60,61]),.string (ba [62]),.string (ba [62,61]),.string (ba [38,38]),.string (ba [124,124])]
theorem bL1 (k:Nat) (h:k<13):bNt[k]?=some (.string (ba (binL.getD k []))):=by
 match k,h with
 | 0,_=>rfl
 | 1,_=>rfl
 | 2,_=>rfl
 | 3,_=>rfl
 | 4,_=>rfl
 | 5,_=>rfl
 | 6,_=>rfl
 | 7,_=>rfl
 | 8,_=>rfl
 | 9,_=>rfl
 | 10,_=>rfl
 | 11,_=>rfl
 | 12,_=>rfl
 | k+13,h=>omega
theorem bL2 (w:World):Calls prog 183 #[] w fun e w'=>(∃ A,e = .returned (.slice A 13 13)/\aTy w' A 13 binL)/\Bel w w':=by
 go_enter func183,ntmps183;go_wp2;go_ret;have hb:Blk (w.alloc (.cells bNt 9)) w.heap.size bNt 9:=Blk.new w _ _;refine ⟨⟨_,rfl,rfl,fun i x hx=>?_⟩,(Bel.refl w).alloc _⟩
 have hi:i<13:=(List.getElem?_eq_some_iff.1 hx).1;refine ⟨w.heap.size,0,rfl,by simp,?_⟩
 have:=hb.cell (0+i*1) (v := .string (ba (binL.getD i []))) (by rw [show 0+i*1=i by omega];exact bL1 i hi)
 rw [show binL.getD i []=x by simp [List.getD_eq_getElem?_getD,hx]] at this
 exact this
def bNp:Array Value:=#[.string (ba [97,108,108]),.string (ba [115,111,109,101]),.string (ba [99,111,117,110,116]),.string (ba [102,105,114,115,116]),.string (ba [109,105,110]),.string (ba [109,97,120]),.string (ba [115,117,109]),.string (ba [109,101,120]),.string (ba [115,101,99,111,110,100]),.string (ba [104,101,97,100])]
theorem bKt (k:Nat) (h:k<10):bNp[k]?=some (.string (ba (aggL.getD k []))):=by
 match k,h with
 | 0,_=>rfl
 | 1,_=>rfl
 | 2,_=>rfl
 | 3,_=>rfl
 | 4,_=>rfl
 | 5,_=>rfl
 | 6,_=>rfl
 | 7,_=>rfl
 | 8,_=>rfl
 | 9,_=>rfl
 | k+10,h=>omega
theorem bKu (w:World):Calls prog 201 #[] w fun e w'=>(∃ A,e = .returned (.slice A 10 10)/\aTy w' A 10 aggL)/\Bel w w':=by
 go_enter func201,ntmps201;go_wp2;go_ret;have hb:Blk (w.alloc (.cells bNp 9)) w.heap.size bNp 9:=Blk.new w _ _;refine ⟨⟨_,rfl,rfl,fun i x hx=>?_⟩,(Bel.refl w).alloc _⟩
 have hi:i<10:=(List.getElem?_eq_some_iff.1 hx).1;refine ⟨w.heap.size,0,rfl,by simp,?_⟩
 have:=hb.cell (0+i*1) (v := .string (ba (aggL.getD i []))) (by rw [show 0+i*1=i by omega];exact bKt i hi)
 rw [show aggL.getD i []=x by simp [List.getD_eq_getElem?_getD,hx]] at this
 exact this
def bNw:Array Value:=#[.string (ba [116,114,117,101]),.string (ba [102,97,108,115,101]),.string (ba [110,111,110,101]),.string (ba []),.string (ba [110]),.string (ba [105,100,115]),.string (ba [105,100]),.string (ba [100,101,103]),.string (ba [114,111,111,116])]
theorem bLa (k:Nat) (h:k<9):bNw[k]?=some (.string (ba (conL.getD k []))):=by
 match k,h with
 | 0,_=>rfl
 | 1,_=>rfl
 | 2,_=>rfl
 | 3,_=>rfl
 | 4,_=>rfl
 | 5,_=>rfl
 | 6,_=>rfl
 | 7,_=>rfl
 | 8,_=>rfl
 | k+9,h=>omega
theorem bLb (w:World):Calls prog 200 #[] w fun e w'=>(∃ A,e = .returned (.slice A 9 9)/\aTy w' A 9 conL)/\Bel w w':=by
 go_enter func200,ntmps200;go_wp2;go_ret;have hb:Blk (w.alloc (.cells bNw 9)) w.heap.size bNw 9:=Blk.new w _ _;refine ⟨⟨_,rfl,rfl,fun i x hx=>?_⟩,(Bel.refl w).alloc _⟩
 have hi:i<9:=(List.getElem?_eq_some_iff.1 hx).1;refine ⟨w.heap.size,0,rfl,by simp,?_⟩
 have:=hb.cell (0+i*1) (v := .string (ba (conL.getD i []))) (by rw [show 0+i*1=i by omega];exact bLa i hi)
 rw [show conL.getD i []=x by simp [List.getD_eq_getElem?_getD,hx]] at this
 exact this
def bNz:Array Value:=#[.string (ba [105,100]),.string (ba [100,101,103]),.string (ba [114,111,111,116]),.string (ba [119,101,105,103,104,116]),.string (ba [98,97,99,107])]
theorem bLj (k:Nat) (h:k<5):bNz[k]?=some (.string (ba (fldL.getD k []))):=by
 match k,h with
 | 0,_=>rfl
 | 1,_=>rfl
 | 2,_=>rfl
 | 3,_=>rfl
 | 4,_=>rfl
 | k+5,h=>omega
theorem bLk (w:World):Calls prog 203 #[] w fun e w'=>(∃ A,e = .returned (.slice A 5 5)/\aTy w' A 5 fldL)/\Bel w w':=by
 go_enter func203,ntmps203;go_wp2;go_ret;have hb:Blk (w.alloc (.cells bNz 9)) w.heap.size bNz 9:=Blk.new w _ _;refine ⟨⟨_,rfl,rfl,fun i x hx=>?_⟩,(Bel.refl w).alloc _⟩
 have hi:i<5:=(List.getElem?_eq_some_iff.1 hx).1;refine ⟨w.heap.size,0,rfl,by simp,?_⟩
 have:=hb.cell (0+i*1) (v := .string (ba (fldL.getD i []))) (by rw [show 0+i*1=i by omega];exact bLj i hi)
 rw [show fldL.getD i []=x by simp [List.getD_eq_getElem?_getD,hx]] at this
 exact this
theorem aM5 (s:ByteArray) (w:World):Calls prog 165 #[.string s] w fun e w'=>e = .returned (.int .i64 (aS9 (aA4 s):Nat))/\Bel w w':=by
 go_enter func165,ntmps165
 go_wp2_with (first
  | (go_at_call 183;refine (bL2 _).mono ?_;rintro e w1 ⟨⟨A,rfl,hA⟩,hb⟩;have HA:=aA0 hA;clear hA)
  | (go_at_call 182;refine (aPu s 30 A 13 binL _ (by omega) (by decide) HA.out).mono ?_;rintro e w2 ⟨rfl,rfl⟩))
 go_ret;exact ⟨rfl,hb⟩
theorem aWi (s:ByteArray) (w:World):Calls prog 193 #[.string s] w fun e w'=>e = .returned (.int .i64 (bE0 (aA4 s):Nat))/\Bel w w':=by
 go_enter func193,ntmps193
 go_wp2_with (first
  | (go_at_call 201;refine (bKu _).mono ?_;rintro e w1 ⟨⟨A,rfl,hA⟩,hb⟩;have HA:=aA0 hA;clear hA)
  | (go_at_call 182;refine (aPu s 20 A 10 aggL _ (by omega) (by decide) HA.out).mono ?_;rintro e w2 ⟨rfl,rfl⟩))
 go_ret;exact ⟨rfl,hb⟩
theorem aQl (s:ByteArray) (w:World):Calls prog 192 #[.string s] w fun e w'=>e = .returned (.int .i64 (bEc (aA4 s):Nat))/\Bel w w':=by
 go_enter func192,ntmps192
 go_wp2_with (first
  | (go_at_call 200;refine (bLb _).mono ?_;rintro e w1 ⟨⟨A,rfl,hA⟩,hb⟩;have HA:=aA0 hA;clear hA)
  | (go_at_call 182;refine (aPu s 2 A 9 conL _ (by omega) (by decide) HA.out).mono ?_;rintro e w2 ⟨rfl,rfl⟩))
 go_ret;exact ⟨rfl,hb⟩
theorem aXk (s:ByteArray) (w:World):Calls prog 199 #[.string s] w fun e w'=>e = .returned (.int .i64 (bAa (aA4 s):Nat))/\Bel w w':=by
 go_enter func199,ntmps199
 go_wp2_with (first
  | (go_at_call 203;refine (bLk _).mono ?_;rintro e w1 ⟨⟨A,rfl,hA⟩,hb⟩;have HA:=aA0 hA;clear hA)
  | (go_at_call 182;refine (aPu s 13 A 5 fldL _ (by omega) (by decide) HA.out).mono ?_;rintro e w2 ⟨rfl,rfl⟩))
 go_ret;exact ⟨rfl,hb⟩
theorem bLx (l:Wd):aJw (ba l)=bAt l:=by
 unfold aJw bAt aH2;rw [aD0];have e1:(ba l).size=l.length:=by rw [<- aAx,aCl]
 have e2:(ba l).data.toList=l:=rfl
 have e3:(wordsL.any fun x=>l==x)=wordsL.contains l:=by
  rw [Bool.eq_iff_iff,List.any_eq_true,List.contains_iff_mem];constructor
  .rintro ⟨x,hx,h⟩
   rw [beq_iff_eq] at h;rw [h];exact hx
  .intro h;exact ⟨l,h,by simp⟩
 rw [e1,e2,e3,aO1,Bool.decide_and];rw [show l.all aF3=l.all aEe by congr 1;funext c;rw [aT0]]
 rfl
def bBz (B:Nat) (w:World) (b o:Nat) (x:Wd):Prop:=b≠B/\w.cell? ⟨b,o,none⟩=some (.string (ba x))
def NmR (B:Nat) (w:World) (v:Value) (N:List Wd):Prop:=∃ A c,v = .slice A N.length c/\aAc 1 (bBz B) w A N.length N
theorem NmR.but {B:Nat} {w w':World} {v:Value} {N:List Wd} (h:NmR B w v N) (k:But B w w'):NmR B w' v N:=by
 obtain ⟨A,c,e,h1,h2⟩:=h;refine ⟨A,c,e,h1,fun i x hx=>?_⟩
 obtain ⟨b,o,e,hb,h3,h4⟩:=h2 i x hx;refine ⟨b,o,e,Nat.lt_of_lt_of_le hb k.size,h3,?_⟩
 unfold World.cell? at h4 ⊢;rw [k.block b hb h3];exact h4
theorem NmR.strs {B:Nat} {w:World} {A:Option Addr} {c n:Nat} {N:List Wd} (h:aAc 1 (bBz B) w A n N):aTy w A n N :=
 ⟨h.1,fun i x hx=>by obtain ⟨b,o,e,hb,_,h4⟩:=h.2 i x hx;exact ⟨b,o,e,hb,h4⟩⟩
def bO3 (N:List Wd) (x:Wd):Int:=match N.findIdx? (·==x) with | some i=>(i:Int) | none => -1
theorem bLr {w:Wd} {j:Nat} {l:List Wd} (hj:j<l.length) (h1:∀ i (hi:i<j),l[i]≠w) (h2:l[j]=w):bO3 l w=(j:Int):=by
 unfold bO3;rw [List.findIdx?_eq_some_iff_getElem.2 ⟨hj,by simpa using h2,fun i hi=>by simpa using h1 i hi⟩]
theorem bI1 {w:Wd} {l:List Wd} (h1:∀ i (hi:i<l.length),l[i]≠w):bO3 l w = -1:=by
 unfold bO3
 rw [List.findIdx?_eq_none_iff.2 (fun x hx=>by
  obtain ⟨i,hi,rfl⟩:=List.getElem_of_mem hx
  simpa using h1 i hi)]
theorem bF3 (s:ByteArray) (A:Option Addr) (c:Nat) (l:List Wd) (w:World) (hl:l.length<=1000) (h:aTy w A l.length l) :
  Calls prog 143 #[.slice A l.length c,.string s] w fun e w'=>e = .returned (.int .i64 (bO3 l (aA4 s)))/\w=w':=by
 have H:=aA0 h;clear h;go_enter func143,ntmps143;go_wp2
 go_loopg [5,8] l.length (fun m _x z wr=>∃ j:Nat,j<=l.length/\m=l.length-j/\Hid (∀ i (hi:i<l.length),i<j->l[i]≠aA4 s)/\z = .int .i64 j/\w=wr)
 case atStart=>exact ⟨0,by omega,rfl,fun i hi h=>by omega,rfl,rfl⟩
 case round =>
  obtain ⟨j,hj,rfl,HK,rfl,rfl⟩:=hrel
  by_cases hlt:j<l.length
  .have hd0:decide (j<l.length)=true:=by simpa using hlt
   obtain ⟨b,o,rfl,hb,hc⟩:=H.out.at_ j hlt
   by_cases he:l[j]=aA4 s
   .have HG:=aA0 (bLr hlt (fun i hi=>HK.out i (by omega) hi) he)
    rw [he] at hc;have hd:(s.toList==(ba (aA4 s)).toList)=true:=by rw [aD0,aCs];simp
    clear he;go_wp2;go_ret;exact ⟨aA9 (by rw [HG.out]),rfl⟩
   .have HG:Hid (∀ i (hi:i<l.length),i<j+1->l[i]≠aA4 s):=by
     intro i hi h
     by_cases hij:i=j
     .subst hij;exact he
     .exact HK.out i hi (by omega)
    have hd:(s.toList==(ba l[j]).toList)=false:=by rw [aD0,aCs];simpa using fun h=>he h.symm
    clear he;go_wp2
    go_roundg (l.length-(j+1))
    case rel=>exact ⟨j+1,by omega,rfl,HG,by go_num,rfl⟩
    case measure=>omega
  .have hd0:decide (j<l.length)=false:=by simpa using hlt
   have HG:=aA0 (bI1 (fun i hi=>HK.out i hi (by omega)))
   go_wp2;go_ret;exact ⟨aA9 (by rw [HG.out]),rfl⟩
theorem aYf (l:Wd) (w:World) (hl:l.length<=20000) (b:Bool) (hb:bAt l=b):Calls prog 106 #[.string (ba l)] w fun e w'=>e = .returned (.bool b)/\w=w':=by
 have h:=aGi (ba l) w (by rw [<- aAx,aCl];omega)
 rw [bLx,hb] at h;exact h
theorem aYt {T:ByteArray} {ts:List Tok}:(aBa (aA4 T) ts).length<=T.size:=by
 cases ts with
 | nil=>simp [aBa]
 | cons t r =>
  show ((((aA4 T).drop t.at_).take (t.en-t.at_)).length)<=_
  rw [List.length_take,List.length_drop,aAx];omega
theorem aS4 {T:Wd} {N:List Wd} {ts r:List Tok} {x:Nat} (h:aFb T N ts=some (x,r)):aJ6 ts=1/\bAt (aBa T ts)=true/\bO3 N (aBa T ts)=(x:Int)/\x<N.length/\∃ t,ts=t :: r:=by
 unfold aFb at h;split at h
 .rename_i hc
  split at h
  .rename_i i hi
   injection h with h
   injection h with h1 h2
   subst h1;refine ⟨hc.1,hc.2,by unfold bO3;rw [hi],?_,?_⟩
   .obtain ⟨h3,_⟩:=List.findIdx?_eq_some_iff_getElem.1 hi
    exact h3
   .cases ts with
    | nil=>exact absurd hc.1 (by simp [aJ6])
    | cons t r'=>exact ⟨t,by rw [<- h2];rfl⟩
  .cases h
 .cases h
theorem aKh {w:World} {B:Nat} {T:ByteArray} {ts r:List Tok} {v2 v3 v4 v5 v6:Value} {N:List Wd} {x:Nat} (h:RdX w B T ts v2 v3 v4 v5 v6) (hN:NmR B w v2 N) (hl:N.length<=1000) (hv:aFb (aA4 T) N ts=some (x,r)) :
  Calls prog 111 #[.pointer (some ⟨B,0,none⟩)] w fun e w'=>e = .returned (.int .i64 (x:Int))/\But B w w'/\RdX w' B T r v2 v3 v4 v5 v6:=by
 obtain ⟨hk,hn,hx,hxN,t,rfl⟩:=aS4 hv;obtain ⟨AN,cN,rfl,hNR⟩:=hN;have HNR:=aA0 hNR;have HK:=aA0 hk;have HNM:=aA0 hn;have HX:=aA0 hx;have HH:=aA0 h;have HPL:=aA0 (aYt (T:=T) (ts:=t :: r));have HBIG:Hid (T.size<=16384):=by obtain ⟨_,_,h⟩:=h;exact h.big
 clear hv hNR hk hn hx h;have dx:decide ((x:Int)<0)=false:=by simp
 go_enter func111,ntmps111
 go_wp2_with (first
  | (go_at_call 104;refine (aC1 HH.out).mono ?_;rintro e w1 ⟨rfl,hb⟩;have HH1:=aA0 (HH.out.bel hb);have HB:=aA0 hb;have HN1:=aA0 (HNR.out.keep (fun _ _ _ _ _ k hb h=>⟨h.1,(k.cell hb).trans h.2⟩) hb);obtain ⟨A1,k1,hr1⟩:=HH1.out;obtain ⟨y0,y1,y2,_⟩:=hr1.cells;have yl:=hr1.lt;clear hb hr1)
  | (go_at_call 105;refine (aFt HH1.out).mono ?_;rintro e w2 ⟨rfl,rfl⟩;rw [HK.out])
  | (go_at_call 106;refine (aYf _ _ (by have:=HPL.out;have:=HBIG.out;omega) true HNM.out).mono ?_;rintro e w2 ⟨rfl,rfl⟩)
  | (go_at_call 143;refine (bF3 (ba (aBa (aA4 T) (t :: r))) AN cN N _ hl (NmR.strs (c:=0) HN1.out)).mono ?_;rintro e w2 ⟨rfl,rfl⟩;rw [aCl,HX.out])
  | (go_at_call 107;refine (aEk HH1.out).mono ?_;rintro e w2 ⟨rfl,hb,hr⟩;have HB2:=aA0 hb;have HR:=aA0 hr;clear hb hr))
 go_ret;exact ⟨rfl,(But.of_bel HB.out).trans HB2.out,HR.out⟩
def tmC (l:List Term):List Value:=l.flatMap aBt
theorem bGd (l m:List Term):tmC (l++m)=tmC l++tmC m:=by simp [tmC]
def TmO (N:Nat) (w:World) (v:Value) (l:List Term):Prop:=∃ A c,v = .slice A l.length c/\w.ownsRow N 235 2 v l.length (tmC l)
theorem aFo (op arg:Nat) (w:World):Calls prog 167 #[.int .i64 (op:Int),.int .i64 (arg:Int)] w fun e w'=>(∃ v,e = .returned v/\TmO w.heap.size w' v (aL1 op arg))/\Bel w w':=by
 go_enter func167,ntmps167;go_wp2;go_ret;refine ⟨⟨_,rfl,some ⟨w.heap.size,0,none⟩,1,rfl,?_⟩,(Bel.refl w).alloc _⟩
 refine ⟨rfl,.inr ⟨w.heap.size,1,#[.int .i64 (op:Int),.int .i64 (arg:Int)],rfl,Nat.le_refl _,aB4 _ _,Nat.le_refl _,by unfold maxLen;decide,rfl,rfl⟩⟩
open Go.ChangeShapes Go.WideShapes Go.ChangeAt Go.RowKit Go.Deep
theorem Tryz.cells_ints:prog.cellsOf 22=1:=by kernel_rfl
theorem Tryz.cells_link:prog.cellsOf 64=2:=by kernel_rfl
theorem Tryz.cells_links:prog.cellsOf 60=1:=by kernel_rfl
theorem Tryz.cells_ports:prog.cellsOf 23=1:=by kernel_rfl
theorem Tryz.cells_graph:prog.cellsOf 25=2:=by kernel_rfl
section
variable {H:Type} {enc:TypeId × Value->H} {w:World} {base:Nat} {spare:Nat->Bool} {held:Bool}
def bGo (enc:TypeId × Value->H) (w:World) (base:Nat) (spare:Nat->Bool) (held:Bool) {α:Type} (e:TypeId) (size:Nat) (E:World->Nat->Nat->α->Prop):Prop :=
 ∀ n cs y b o,(∀ j,j<size->w.cell? ⟨b,o+j,none⟩=cs[j]?)->cs.length=size->DataW.trod enc prog w base spare held n e cs=some y->∃ x,E w b o x/\True
theorem bB1 {α:Type} [Inhabited α] {t e:TypeId} {size:Nat} {E:World->Nat->Nat->α->Prop} (ht:prog.underlying t=some (.slice e)) (hC:prog.cellsOf e=size) (hsz:0<size)
  (hE:bGo enc w base spare held e size E):bGo enc w base spare held t 1 (aGd size E):=by
 intro n cs y b o hat hl h
 obtain ⟨A,n',c,xs,hcs,hr,_,h1,h2⟩:=aRg (E:=E) (Good:=fun _=>True) ht hC hsz hE h;subst hcs;have hn:=hr.1;subst hn;exact ⟨xs,⟨A,c,by simpa using hat 0 (by omega),hr,h1,h2⟩,trivial⟩
theorem aYo:bGo enc w base spare held 3 1 aJd:=fun n cs y b o h1 h2 h3=>by
 obtain ⟨x,hx,_⟩:=bB0 underlying3 n cs y b o h1 h2 h3;exact ⟨x,hx,trivial⟩
theorem aLd {m i n:Nat} {cs:List Value} {u:Value} {xs:List (DataW H × List MemPlace)}
  (h:DataW.trod enc prog w base spare held m 3 cs=xs[i]?) (hl:xs.length=n) (hi:i<n) (hcs:cs=[u]):∃ x,u = .int .i64 x:=by
 obtain ⟨y,hy⟩:=aOt h hl hi hcs;obtain ⟨x,hx,_,_⟩:=DataW.trod_int underlying3 hy;exact ⟨x,by simpa using hx⟩
theorem aYp:bGo enc w base spare held 64 2 aQ5:=by
 intro n cs y b o hat hl h
 obtain ⟨xs,m,_,_,_,hxl,hf⟩:=DataW.trod_struct underlying64 h
 match cs,hl with
 | [u,v],_ =>
  obtain ⟨x0,rfl⟩:=aLd (u:=u) (hf 0 _ rfl) hxl (by decide) (by simp [Tryz.cells_int])
  obtain ⟨x1,rfl⟩:=aLd (u:=v) (hf 1 _ rfl) hxl (by decide) (by simp [Tryz.cells_int])
  exact ⟨⟨x0,x1⟩,⟨by simpa using hat 0 (by omega),by simpa using hat 1 (by omega)⟩,trivial⟩
theorem aMz {α:Type} [Inhabited α] {t e:TypeId} {size:Nat} {E:World->Nat->Nat->α->Prop} (ht:prog.underlying t=some (.slice e)) (hC:prog.cellsOf e=size) (hsz:0<size)
  (hE:bGo enc w base spare held e size E) {fuel:Nat} {cs:List Value} {y:DataW H × List MemPlace} (h:DataW.trod enc prog w base spare held fuel t cs=some y) :
  ∃ (A:Option Addr) (c:Nat) (xs:List α),cs=[.slice A xs.length c]/\aAc size E w A xs.length xs/\xs.length<=c/\c<=maxLen:=by
 obtain ⟨A,n',c,xs,hcs,hr,_,h1,h2⟩:=aRg (E:=E) (Good:=fun _=>True) ht hC hsz hE h;have hn:=hr.1;subst hn;exact ⟨A,c,xs,hcs,hr,h1,h2⟩
theorem aRf {r:Reach} {b0:Nat} {v:Value} {d:DataW H} {p:List MemPlace} (h:DataW.Trod enc prog w base spare held 25 v d p) (hv:Value.okWide prog w r b0 25 v):∃ g:Graph,aB7 w v g:=by
 obtain ⟨cs,rfl,hsz⟩:=okWide_struct underlying25 hv;obtain ⟨l⟩:=cs;rw [Tryz.cells_graph] at hsz
 match l,hsz with
 | [u,v],_ =>
  obtain ⟨fuel,hf⟩:=h;obtain ⟨xs,m,_,_,_,hxl,hf⟩:=DataW.trod_struct underlying25 hf;obtain ⟨y0,h0⟩:=aOt (us:=[u]) (hf 0 _ rfl) hxl (by decide) (by simp [Tryz.cells_ints,Value.cells])
  obtain ⟨y1,h1⟩:=aOt (us:=[v]) (hf 1 _ rfl) hxl (by decide) (by simp [Tryz.cells_ints,Tryz.cells_ports,Value.cells])
  obtain ⟨A,c,ids,e0,a1,a2,a3⟩:=aMz underlying22 Tryz.cells_int (by decide) aYo h0
  obtain ⟨A2,c2,ports,e1,b1,b2,b3⟩:=aMz underlying23 Tryz.cells_links (by decide) (bB1 underlying60 Tryz.cells_link (by decide) aYp) h1
  obtain rfl:u=_:=by simpa using e0
  obtain rfl:v=_:=by simpa using e1
  exact ⟨⟨ids,ports⟩,A,c,A2,c2,rfl,a1,a2,a3,b1,b2,b3⟩
end
end Go.Proofs.YtmoebklkkjbigaaGreatDoor

