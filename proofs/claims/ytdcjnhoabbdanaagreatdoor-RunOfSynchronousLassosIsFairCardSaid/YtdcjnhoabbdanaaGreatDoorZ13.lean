/- Merged. -/
import Derived.Test.YtdcjnhoabbdanaaGreatDoorZ12
import Derived.Lib.LaidTab
import Derived.LaidMore
import Derived.OpenShut
import Derived.Stop.Joined
set_option linter.unusedSimpArgs false
set_option linter.unnecessarySimpa false
set_option linter.unusedVariables false
set_option maxRecDepth 100000
set_option maxHeartbeats 2000000
open Go.Proofs.Tryz

namespace Go.Proofs.YtdcjnhoabbdanaaGreatDoor
open Go.RowKit
theorem aBm.cells {w:World} {A:Option Addr} {l:List Int} (h:aBm w A l.length l):aMq w 1 A l.length (l.map (Value.int .i64)):=by
 refine ⟨by simp,fun j u hu=>?_⟩
 rw [List.getElem?_map] at hu;cases hx:l[j]? with
 | none=>rw [hx] at hu;cases hu
 | some x =>
  rw [hx] at hu;obtain rfl:Value.int .i64 x=u:=by simpa using hu
  obtain ⟨b,o,e,_,hc⟩:=h.2 j x hx;exact ⟨b,o,e,by simpa [aHr] using hc⟩
theorem aFf (l:List Int):∀ u∈l.map (Value.int .i64),u.oneCell'=true:=by
 intro u hu
 obtain ⟨x,_,rfl⟩:=List.mem_map.1 hu;rfl
def Off (g:Nat) (A:Option Addr):Prop:=∀ b o,A=some ⟨b,o,none⟩->b≠g
theorem aBm.other {w:World} {A:Option Addr} {l:List Int} {g v:Nat} {x:Value} (h:aBm w A l.length l) (ho:Off g A):aBm (w.setCell ⟨g,v,none⟩ x) A l.length l:=by
 refine ⟨rfl,fun i y hy=>?_⟩
 obtain ⟨b,o,rfl,hb,hc⟩:=h.2 i y hy
 exact ⟨b,o,rfl,by simpa using hb,by
  unfold aHr at *;rw [((Fr.refl g w).set v x).cell hb (ho b o rfl)];exact hc⟩
structure OwnC (w:World) (base g cap:Nat) (d:aA6) (hs:List Value):Prop where
 own:w.ownsRow base 26 1 (.slice (some ⟨g,0,none⟩) d.length cap) d.length hs
 rows:∀ u (hu:u<d.length),∃ R c',hs[u]?=some (.slice R d[u].length c')/\aBm w R d[u].length d[u]/\d[u].length<=c'/\c'<=maxLen/\Off g R
theorem OwnC.keep {w w':World} {base g cap:Nat} {d:aA6} {hs:List Value} (h:OwnC w base g cap d hs) (k:Bel w w'):OwnC w' base g cap d hs :=
 ⟨k.owns h.own,fun u hu=>by
  obtain ⟨R,c',h1,h2,h3⟩:=h.rows u hu;exact ⟨R,c',h1,h2.keep k,h3⟩⟩
theorem OwnC.conf {w:World} {base g cap:Nat} {d:aA6} {hs:List Value} (h:OwnC w base g cap d hs):aAw w (.slice (some ⟨g,0,none⟩) d.length cap) d:=by
 obtain ⟨h1,h2⟩:=aEc h.own;refine ⟨_,_,rfl,⟨rfl,fun u x hx=>?_⟩,h1,h2⟩
 have hu:u<d.length:=(List.getElem?_eq_some_iff.1 hx).1;have hxe:d[u]=x:=(List.getElem?_eq_some_iff.1 hx).2;obtain ⟨R,c',k1,k2,k3,k4,_⟩:=h.rows u hu;obtain ⟨g',e1,_,hlt,hc,_⟩:=aDs h.own k1;obtain rfl:g=g':=by simpa using e1
 subst hxe;exact ⟨g,0,rfl,hlt,R,c',by rw [Nat.zero_add,Nat.mul_one];exact hc,k2,k3,k4⟩
theorem OwnC.set {w:World} {base g cap:Nat} {d:aA6} {hs:List Value} (h:OwnC w base g cap d hs) {v:Nat} {l:List Int} {A:Option Addr} {c':Nat} (hv:v<d.length) (hl:aBm w A l.length l) (h1:l.length<=c') (h2:c'<=maxLen) (ho:Off g A) :
  OwnC (w.setCell ⟨g,v,none⟩ (.slice A l.length c')) base g cap (d.set v l) (hs.set v (.slice A l.length c')):=by
 have hlen:hs.length=d.length:=by have:=h.own.1;omega
 refine ⟨by rw [List.length_set];exact (h.own.stored v _).1,fun u hu=>?_⟩
 rw [List.length_set] at hu
 by_cases he:v=u
 .subst he
  rw [List.getElem_set_self];exact ⟨A,c',List.getElem?_set_self (by omega),hl.other ho,h1,h2,ho⟩
 .rw [List.getElem_set_ne he]
  obtain ⟨R,c2,k1,k2,k3,k4,k5⟩:=h.rows u hu;exact ⟨R,c2,by rw [List.getElem?_set_ne he];exact k1,k2.other k5,k3,k4,k5⟩
def aPx (w:World) (B:Nat) (A:Option Addr) (c:Nat) (l:List Int):Prop:=aBm w A l.length l/\l.length<=c/\c<=maxLen/\∀ b o,A=some ⟨b,o,none⟩->B<=b/\b<w.heap.size
theorem aPx.off {w:World} {B:Nat} {A:Option Addr} {c:Nat} {l:List Int} (h:aPx w B A c l) {g:Nat} (hg:g<B):Off g A:=fun b o e=>by have:=h.2.2.2 b o e;omega
theorem aPx.keep {w w':World} {B:Nat} {A:Option Addr} {c:Nat} {l:List Int} (h:aPx w B A c l) (k:Bel w w'):aPx w' B A c l:=⟨h.1.keep k,h.2.1,h.2.2.1,fun b o e=>⟨(h.2.2.2 b o e).1,Nat.lt_of_lt_of_le (h.2.2.2 b o e).2 k.size⟩⟩
theorem aPx.lower {w:World} {B B':Nat} {A:Option Addr} {c:Nat} {l:List Int} (h:aPx w B A c l) (hB:B'<=B):aPx w B' A c l:=⟨h.1,h.2.1,h.2.2.1,fun b o e=>⟨Nat.le_trans hB (h.2.2.2 b o e).1,(h.2.2.2 b o e).2⟩⟩
theorem aPx.gr {w w':World} {B:Nat} {A:Option Addr} {c:Nat} {l:List Int} {row:Option Nat} (h:aPx w B A c l) (hg:Gr row w w') (ho:∀ b o,A=some ⟨b,o,none⟩->some b≠row):aPx w' B A c l :=
 ⟨⟨rfl,fun i x hx=>by
  obtain ⟨b,o,e,hb,hc⟩:=h.1.2 i x hx;exact ⟨b,o,e,Nat.lt_of_lt_of_le hb hg.1,(hg.cell hb (ho b o e)).trans hc⟩⟩,h.2.1,h.2.2.1,fun b o e=>⟨(h.2.2.2 b o e).1,Nat.lt_of_lt_of_le (h.2.2.2 b o e).2 hg.1⟩⟩
theorem aKm {w:World} {base:Nat} {e:TypeId} {A:Option Addr} {n c:Nat} {l:List Int} (h:w.ownsRow base e 1 (.slice A n c) n (l.map (Value.int .i64))):n=l.length/\aPx w base A c l:=by
 have hn:n=l.length:=by have:=h.1;simp at this;omega
 subst hn;obtain ⟨h1,h2⟩:=aEc h;refine ⟨rfl,aKl h,h1,h2,fun b o e=>?_⟩
 subst e
 rcases h.2 with ⟨hv,_⟩ | ⟨g',cap,cur,hv,hb,hg,_⟩
 .cases hv
 .injection hv with hA;injection hA with hA;injection hA with hA;subst hA;exact ⟨hb,lt_of_block hg⟩
theorem bBp {w:World} {base:Nat} {e:TypeId} {size n m cap:Nat} {B:Option Addr} {hs:List Value} (h:w.ownsRow base e size (.slice B n cap) n hs) (hn:n=m):w.ownsRow base e size (.slice B m cap) m hs:=by subst hn;exact h
theorem bCf {w:World} {base:Nat} {e:TypeId} {size n cap g o:Nat} {hs:List Value} (h:w.ownsRow base e size (.slice (some ⟨g,o,none⟩) n cap) n hs):g<w.heap.size:=by
 rcases h.2 with ⟨hv,_⟩ | ⟨g',_,_,hv,_,hg,_⟩
 .cases hv
 .injection hv with hA;injection hA with hA;injection hA with hA;subst hA;exact lt_of_block hg
theorem aYd (A:Option Addr) (n c:Nat):∀ u∈(#[Value.slice A n c]:Array Value).toList,u.oneCell'=true:=by simp [Value.oneCell']
structure AppC (w:World) (base:Nat) (B:Option Addr) (cap:Nat) (d:aA6) (hs:List Value):Prop where
 own:w.ownsRow base 26 1 (.slice B d.length cap) d.length hs
 rows:∀ u (hu:u<d.length),∃ R c',hs[u]?=some (.slice R d[u].length c')/\aPx w base R c' d[u]/\∀ g o,B=some ⟨g,o,none⟩->Off g R
theorem AppC.nil (w:World) (base:Nat):AppC w base none 0 [] []:=⟨World.ownsRow_nil _ _ _ _,fun u hu=>absurd hu (by simp)⟩
theorem AppC.keep {w w':World} {base cap:Nat} {B:Option Addr} {d:aA6} {hs:List Value} (h:AppC w base B cap d hs) (k:Bel w w'):AppC w' base B cap d hs :=
 ⟨k.owns h.own,fun u hu=>by
  obtain ⟨R,c',h1,h2,h3⟩:=h.rows u hu;exact ⟨R,c',h1,h2.keep k,h3⟩⟩
theorem AppC.push {w w':World} {base cap n:Nat} {B:Option Addr} {d:aA6} {hs:List Value} (h:AppC w base B cap d hs) (hn:d.length=n) {l:List Int} {A:Option Addr} {c:Nat} (hN:aPx w base A c l) (hoff:∀ g o,B=some ⟨g,o,none⟩->Off g A) {o:Obj}
  {B':Option Addr} {cap':Nat} (hown:w'.ownsRow base 26 1 (.slice B' (n+1) cap') (n+1) (hs++[.slice A l.length c])) (hgr:(w.alloc o).grownBy w' (Value.slice B n cap).ownBlock)
  (hat:(Value.slice B' (n+1) cap').ownBlock=(Value.slice B n cap).ownBlock∨(Value.slice B' (n+1) cap').ownBlock=some (w.alloc o).heap.size):AppC w' base B' cap' (d++[l]) (hs++[.slice A l.length c]):=by
 have hlen:hs.length=d.length:=by have:=h.own.1;omega
 have hg:Gr (Value.slice B n cap).ownBlock w w':=(Gr.of_bel ((Bel.refl w).alloc o)).trans (Gr.grown hgr)
 have hb0:∀ R:Option Addr,(∀ g o,B=some ⟨g,o,none⟩->Off g R)->∀ b o,R=some ⟨b,o,none⟩->some b≠(Value.slice B n cap).ownBlock:=by
  intro R hR b o e hb
  rcases h.own.2 with ⟨hv,_⟩ | ⟨g',_,_,hv,_,_,_⟩
  .injection hv with hA;subst hA;cases hb
  .injection hv with hA;subst hA
   obtain rfl:b=g':=by simpa [Value.ownBlock] using hb
   exact hR b 0 rfl b o e rfl
 have hnew:∀ R:Option Addr,∀ c (l:List Int),aPx w base R c l->(∀ g o,B=some ⟨g,o,none⟩->Off g R)->∀ g o,B'=some ⟨g,o,none⟩->Off g R:=by
  intro R c l hR hRo g o' e b o2 eR hbg
  subst e;subst hbg
  rcases hat with hat | hat
  .exact hb0 R hRo b o2 eR (by rw [<- hat];simp [Value.ownBlock])
  .have:=(hR.2.2.2 b o2 eR).2
   simp [Value.ownBlock] at hat
   omega
 refine ⟨by rw [List.length_append,hn];exact hown,fun u hu=>?_⟩
 by_cases hu':u<d.length
 .obtain ⟨R,c',k1,k2,k3⟩:=h.rows u hu'
  rw [List.getElem_append_left hu'];exact ⟨R,c',by rw [List.getElem?_append_left (by omega)];exact k1,k2.gr hg (hb0 R k3),hnew R _ _ k2 k3⟩
 .have:u=d.length:=by simp at hu;omega
  subst this;rw [List.getElem_append_right (Nat.le_refl _)];simp only [Nat.sub_self,List.getElem_singleton]
  exact ⟨A,c,by rw [List.getElem?_append_right (by omega),hlen];simp,hN.gr hg (hb0 A hoff),hnew A _ _ hN hoff⟩
theorem AppC.ownC {w:World} {base cap g:Nat} {d:aA6} {hs:List Value} (h:AppC w base (some ⟨g,0,none⟩) cap d hs):OwnC w base g cap d hs :=
 ⟨h.own,fun u hu=>by
  obtain ⟨R,c',h1,h2,h3⟩:=h.rows u hu;exact ⟨R,c',h1,h2.1,h2.2.1,h2.2.2.1,h3 g 0 rfl⟩⟩
theorem AppC.form {w:World} {base cap:Nat} {B:Option Addr} {d:aA6} {hs:List Value} (h:AppC w base B cap d hs) (hd:0<d.length):∃ g,B=some ⟨g,0,none⟩:=by
 obtain ⟨g,cap',hv,_⟩:=h.own.form hd;injection hv with hA
 exact ⟨g,hA⟩
def aX3 (l:List Int) (w:World) (e:Ending) (w':World):Prop:=∃ A c,e = .returned (.slice A l.length c)/\aPx w' w.heap.size A c l/\Bel w w'
def aH1 (N:Nat) (w:World) (hs:List Value):Prop:=∀ v∈hs,∀ b o n c,v = .slice (some ⟨b,o,none⟩) n c->N<=b/\b<w.heap.size
theorem aH1.size {N:Nat} {w w':World} {hs:List Value} (h:aH1 N w hs) (k:w.heap.size<=w'.heap.size):aH1 N w' hs:=fun v hv b o n c e=>⟨(h v hv b o n c e).1,Nat.lt_of_lt_of_le (h v hv b o n c e).2 k⟩
theorem aH1.zero (N n:Nat) (w:World):aH1 N w (List.replicate n (.slice none 0 0)):=fun v hv b o n' c e=>by
 rw [List.eq_of_mem_replicate hv] at e;cases e
theorem aH1.set {N B:Nat} {w:World} {hs:List Value} (h:aH1 N w hs) {A:Option Addr} {n c:Nat} {l:List Int} (hN:aPx w B A c l) (hB:N<=B) (i:Nat):aH1 N w (hs.set i (.slice A n c)):=fun v hv b o n' c' e=>by
 rcases List.mem_or_eq_of_mem_set hv with hv | hv
 .exact h v hv b o n' c' e
 .subst hv
  injection e with e
  obtain ⟨h1,h2⟩:=hN.2.2.2 b o e;exact ⟨Nat.le_trans hB h1,h2⟩
theorem OwnC.newC {w W:World} {N g cap:Nat} {d:aA6} {hs:List Value} (h:OwnC w N g cap d hs) (hn:aH1 N w hs) (k:aAx N w W):aAw W (.slice (some ⟨g,0,none⟩) d.length cap) d:=by
 refine OwnC.conf (base:=N) (hs:=hs) ⟨aV5 h.own k (aBg h.own).1,fun u hu=>?_⟩
 obtain ⟨R,c',h1,h2,h3⟩:=h.rows u hu;refine ⟨R,c',h1,⟨h2.1,fun i x hx=>?_⟩,h3⟩
 obtain ⟨b,o,e,hb,hc⟩:=h2.2 i x hx;subst e;obtain ⟨n1,n2⟩:=hn _ (List.mem_of_getElem? h1) b o _ _ rfl;exact ⟨b,o,rfl,Nat.lt_of_lt_of_le hb k.1,(k.cell n1 n2).trans hc⟩
def aT7 (d:aA6) (w:World) (e:Ending) (w':World):Prop:=∃ g cap hs,e = .returned (.slice (some ⟨g,0,none⟩) d.length cap)/\OwnC w' w.heap.size g cap d hs/\aH1 w.heap.size w' hs/\Bel w w'
theorem OwnC.zero {w:World} {base g cap n:Nat} {hs:List Value} (h:w.ownsRow base 26 1 (.slice (some ⟨g,0,none⟩) n cap) n hs) (hs0:hs=List.replicate n (.slice none 0 0)):OwnC w base g cap (List.replicate n []) hs:=by
 refine ⟨by rw [List.length_replicate];exact h,fun u hu=>?_⟩
 rw [List.length_replicate] at hu;refine ⟨none,0,?_,?_,?_,?_,fun b o e=>by cases e⟩
 .subst hs0;rw [List.getElem_replicate];rw [List.getElem?_replicate,if_pos hu];rfl
 .rw [List.getElem_replicate];exact aAi.nil
 .rw [List.getElem_replicate];exact Nat.le_refl _
 .unfold maxLen;omega
def aNb (c:aA6) (k:Nat):aA6:=c.take k++List.replicate (c.length-k) []
theorem aI4 (c:aA6) (k:Nat):(aNb c k).length=c.length:=by simp [aNb];omega
theorem aVt (c:aA6):aNb c 0=List.replicate c.length []:=by simp [aNb]
theorem aVr (c:aA6):aNb c c.length=c:=by simp [aNb]
theorem aUr (c:aA6) (k i:Nat):(aNb c k)[i]?=if i<c.length then some (if i<k then c.getD i [] else []) else none:=by
 unfold aNb;rw [List.getElem?_append]
 by_cases hi:i<c.length
 .rw [if_pos hi]
  by_cases hk:i<k
  .rw [if_pos hk,if_pos (by rw [List.length_take];omega),List.getElem?_take_of_lt hk,List.getElem?_eq_getElem hi,aA8 hi]
  .rw [if_neg hk,if_neg (by rw [List.length_take];omega),List.getElem?_replicate,if_pos (by rw [List.length_take];omega)]
 .rw [if_neg hi]
  by_cases hk:i<(c.take k).length
  .rw [List.length_take] at hk;omega
  .rw [if_neg hk,List.getElem?_replicate,if_neg (by rw [List.length_take] at *;omega)]
theorem aVs (c:aA6) (k:Nat) (h:k<c.length):(aNb c k).set k c[k]=aNb c (k+1):=by
 apply List.ext_getElem?
 intro i
 rw [List.getElem?_set,aUr,aUr,aI4]
 by_cases he:k=i
 .subst he
  rw [if_pos rfl,if_pos h,if_pos h,if_pos (by omega),aA8 h]
 .rw [if_neg he]
  by_cases hi:i<c.length
  .rw [if_pos hi,if_pos hi]
   by_cases hk:i<k
   .rw [if_pos hk,if_pos (by omega)]
   .rw [if_neg hk,if_neg (by omega)]
  .rw [if_neg hi,if_neg hi]
theorem aPo:(prog.info? 26).map (fun i=>(i.zero,i.size,i.bytes))=some (some (.slice none 0 0),1,24):=by kernel_rfl
theorem aKa:(prog.info? 3).map (fun i=>(i.zero,i.size,i.bytes))=some (some (.int .i64 0),1,8):=by kernel_rfl
theorem aLv (v:Value) (c:aA6) (w:World) (h:aAw w v c) (hL:aBs c=true) :
  Calls prog 51 #[v] w (aT7 c w):=by
 obtain ⟨A,k,rfl,hR,_,_⟩:=h;have HR:=aA0 (fun w' (kk:Bel w w')=>hR.keep kk);obtain ⟨l1,l2⟩:=aBb hL;have HL2:=aA0 l2;clear hR l2 hL;obtain ⟨i0,hi0,hz0,hz1,hz2⟩:=info_parts aPo;obtain ⟨j0,hj0,hy0,hy1,hy2⟩:=info_parts aKa;go_enter func51,ntmps51
 go_wp2_with (at_make;refine aG3 _ rfl 30 (.tmp 7) (.tmp 7) rfl w.heap.size 26 i0 (.slice none 0 0) 1 underlying30 hi0 hz0 hz1 .i64 .i64 c.length rfl rfl (by rw [hz2];omega) (by unfold maxLen;omega) (by simp) ?_;intro gb w1 hown hb;have HW:=hb;rw [aKd _ rfl] at hown;have HO:=aA0 (OwnC.zero hown rfl);clear hown hb)
 go_loopg [4,5,11] c.length (fun m _x _y z wr=>∃ (v:Nat) (hs:List Value),v<=c.length/\m=c.length-v/\z = .int .i64 v/\Hid (OwnC wr w.heap.size gb c.length (aNb c v) hs)/\Hid (aH1 w.heap.size wr hs)/\Bel w wr)
 case atStart=>exact ⟨0,_,by omega,rfl,rfl,by show OwnC _ _ _ _ _ _;rw [aVt];exact HO.out,aH1.zero _ _ _,HW⟩
 case round =>
  clear HO HW;obtain ⟨v,hs,hv,rfl,rfl,HO,HSN,HW⟩:=hrel
  by_cases hlt:v<c.length
  .have hd0:decide (v<c.length)=true:=by simpa using hlt
   obtain ⟨b,o,R,rc,rfl,hbl,hcell,hI,_,_⟩:=(HR.out _ HW).at_ v hlt;have hle:=HL2.out _ (List.getElem_mem hlt);have HI:=aA0 hI;have HWZ:=aA0 HW.size;clear hI;have hbase:=aBg HO.out.own;have HSL:Hid (hs.length=c.length):=by have:=HO.out.own.1;rw [aI4] at this;show _=_;omega
   go_wp2_with (at_builtin;go_must (refine aB4 _ rfl (.const (.slice none 0 0)) (.tmp 18) 26 rfl wr.heap.size 3 j0 (.int .i64 0) 1 8 underlying26 hj0 hy0 hy1 hy2 rfl (by decide) none 0 0 [] rfl (World.ownsRow_nil _ _ _ _) R c[v].length rc (c[v].map (Value.int .i64)) rfl HI.out.cells (aFf _) (by unfold maxLen;omega) (by omega) (Nat.le_refl _) ?_);intro A3 c3 w3 hown3 hgr3 _;rw [List.nil_append,Nat.zero_add] at hown3;have hb3:=(Bel.refl wr).grown hgr3 (fun k hk=>by cases hk);obtain ⟨_,hN⟩:=aKm hown3;have HN:=aA0 hN;have HO3:=aA0 (HO.out.keep hb3);have y1:=aGu HO3.out.own v (by rw [HSL.out];omega);have y2:=HO3.out.own.frozenAt v;have ygb:=(aBg HO3.out.own).2;replace HW:=HW.trans hb3;have HSN3:=aA0 (HSN.out.size hb3.size);clear hown3 hgr3 hb3 hN)
   go_roundg (c.length-(v+1))
   case rel =>
    have h3:=HN.out;refine ⟨v+1,hs.set v (.slice A3 c[v].length c3),by omega,rfl,by go_num,?_,aH1.size (w:=w3) (HSN3.out.set h3 HWZ.out v) (by simp),HW.setCell (by simp;omega) _⟩
    show OwnC _ _ _ _ _ _
    rw [<- aVs c v hlt];simpa using HO3.out.set (v:=v) (l:=c[v]) (A:=A3) (c':=c3) (by rw [aI4];exact hlt) h3.1 h3.2.1 h3.2.2.1 (h3.off (by omega))
   case measure=>omega
  .have hd0:decide (v<c.length)=false:=by simpa using hlt
   obtain rfl:v=c.length:=by omega
   go_wp2_with fail
   go_ret;have hO:=HO.out;rw [aVr] at hO;exact ⟨gb,_,hs,rfl,hO,HSN.out,HW⟩
open Go.ChangeShapes Go.WideShapes Go.ChangeAt Go.WideMaps Go.WideElems Go.RowKit
theorem gTab : prog.globalNamed "math/bits.deBruijn32tab" = some 0 := by kernel_rfl
theorem tTab:(prog.globals[0]?).map (·.type)=some 177:=by kernel_rfl
theorem cTab1:prog.cellsOf 5=1:=by kernel_rfl
theorem bC9:prog.cellsOf 177=32:=by kernel_rfl
def aQ3:List Int:=bruijn.map fun (n:Nat)=>(n:Int)
abbrev aOq : List (String × DataW Unit) := [("math/bits.deBruijn32tab", Rows.laid_math_bits_deBruijn32tab)]
theorem aVe {W:World} (h:laidMetH prog aOq W):aCt W:=by
 rw [MakeChecks.laidMetH_plain _ _ _ (by kernel_rfl)] at h
 have ht : Lib.TabIs prog W "math/bits.deBruijn32tab" .u8 aQ3 :=
  Lib.tabIs_of_head gTab tTab underlying177 underlying5 cTab1 bC9 (show laidMet prog [("math/bits.deBruijn32tab", Lib.tabData .u8 aQ3)] W from h)
 have hc:∀ i,i<32->W.cell? ⟨0,i,none⟩=some (.int .u8 ((bruijn.getD i 0:Nat):Int)):=fun i hi=>by
  have h1:=ht.cell gTab i (by simpa [aQ3,bruijn] using hi)
  rw [h1];have hb:i<bruijn.length:=by simpa [bruijn] using hi
  simp [aQ3,List.getD_eq_getElem?_getD,hb]
 refine ⟨?_,hc⟩
 have h0:=hc 0 (by decide)
 rcases Nat.lt_or_ge 0 W.heap.size with h | h
 .exact h
 .simp [World.cell?,Array.getElem?_eq_none h] at h0
theorem aUq (os:Os) (args:Array Value):laidMetH prog aOq ((World.doorLaid prog 400 os).forCall (fun _ _=>0) ⟨#[],args,[]⟩).memory :=
 laidMetH_of_parts3 (fuel:=8) (laidMet_of_run' 8 (by kernel_rfl) (by kernel_rfl)) (by kernel_rfl) (by kernel_rfl)
end Go.Proofs.YtdcjnhoabbdanaaGreatDoor

