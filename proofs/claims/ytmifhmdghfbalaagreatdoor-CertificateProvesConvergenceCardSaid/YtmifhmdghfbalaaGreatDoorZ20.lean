/- Merged. -/
import Derived.Test.YtmifhmdghfbalaaGreatDoorZ17
import Derived.Test.YtmifhmdghfbalaaGreatDoorZ18
import Derived.BigQuiet
import Derived.Lib.LaidTab
import Derived.LaidMore
import Derived.OpenShut
import Derived.Stop.Joined
set_option linter.unusedSimpArgs false
set_option linter.unnecessarySimpa false
set_option linter.unusedVariables false
set_option maxRecDepth 100000
set_option maxHeartbeats 2000000
open Go.Proofs.Tryz

namespace Go.Proofs.YtmifhmdghfbalaaGreatDoor
def aJf (p:Prg) (e:List Term):Bool:=(ofF e (aAx p) false).1==1
theorem bBr {p:Prg} {e:List Term}:aJf p e=((ofF e (aAx p) false).2==0&&(ofF e (aAx p) false).1==1):=by
 unfold aJf ofF;split
 .rfl
 split
 .rfl
 split
 .rfl
 split
 .rfl
 .simp
theorem bA8 (p:Prg):(aAx p).length=p.vars.length:=by simp [aAx]
theorem aQx {p:Prg} {e:List Term} (h:aJf p e=true):aB8 e p.vars.length=true/\aBc (aAx p) false (aAm e)=1:=by
 unfold aJf ofF at h;split at h
 .cases h
 split at h
 .cases h
 split at h
 .cases h
 rename_i h3
 split at h
 .cases h
 .refine ⟨?_,by simpa using h⟩
  rw [bA8] at h3;simpa using h3
def aD6 (p:Prg) (l:List (List Term)):Bool:=decide (aBm p=0)&&(decide (1<=l.length)&&decide (l.length<=6))&&l.all (aJf p)
theorem aCk {p:Prg} {l:List (List Term)} (h:aD6 p l=true):aBm p=0/\1<=l.length/\l.length<=6/\∀ e∈l,aJf p e=true:=by
 unfold aD6 at h;simp only [Bool.and_eq_true,decide_eq_true_eq,List.all_eq_true] at h
 exact ⟨h.1.1,h.1.2.1,h.1.2.2,h.2⟩
def aSi (g:Graph) (c:aA8) (e:List Term) (n:Nat):Int:=((List.range n).map fun v=>aAw g c v (-1) (aAm e)).sum
theorem aO0 (g:Graph) (c:aA8) (e:List Term) (n:Nat):aSi g c e (n+1)=aSi g c e n+aAw g c n (-1) (aAm e):=by
 unfold aSi;rw [List.range_succ,List.map_append,List.sum_append];simp
def aPj (g:Graph) (c:aA8) (l:List (List Term)):List Int:=l.map fun e=>aSi g c e c.length
theorem aFb (g:Graph) (c:aA8) (l:List (List Term)):(aPj g c l).length=l.length:=by simp [aPj]
def aJl:List Int->List Int->Bool
 | x :: a,y :: b=>if x=y then aJl a b else decide (x<y)
 | _,_=>false
def aBx (a b:List Int):Bool:=decide (a.length=b.length)&&aJl a b
theorem aVf:∀ a:List Int,aJl a a=false
 | []=>rfl
 | x :: a=>by unfold aJl;rw [if_pos rfl];exact aVf a
theorem aXs:∀ a b:List Int,aJl a b=true->aJl b a=false
 | [],b,h=>by unfold aJl at h;cases h
 | x :: a,[],h=>by unfold aJl at h;cases h
 | x :: a,y :: b,h=>by
  unfold aJl at h ⊢
  by_cases e:x=y
  .rw [if_pos e] at h;rw [if_pos e.symm];exact aXs a b h
  .rw [if_neg e] at h;rw [if_neg (Ne.symm e)]
   simp at h ⊢;omega
theorem aTr:∀ a b c:List Int,aJl a b=true->aJl b c=true->aJl a c=true
 | [],b,c,h,_=>by unfold aJl at h;cases h
 | x :: a,[],c,h,_=>by unfold aJl at h;cases h
 | x :: a,y :: b,[],_,h=>by unfold aJl at h;cases h
 | x :: a,y :: b,z :: c,h,k=>by
  unfold aJl at h k ⊢
  by_cases e:x=y
  .rw [if_pos e] at h
   by_cases f:y=z
   .rw [if_pos f] at k;rw [if_pos (e.trans f)];exact aTr a b c h k
   .rw [if_neg f] at k;rw [if_neg (by rw [e];exact f),e];exact k
  .rw [if_neg e] at h
   by_cases f:y=z
   .rw [if_neg (by rw [<- f];exact e),<- f];exact h
   .rw [if_neg f] at k
    simp at h k
    rw [if_neg (by omega)]
    simp;omega
theorem aTq:∀ a b:List Int,a.length=b.length->a≠b->aJl a b=true∨aJl b a=true
 | [],[],_,h=>absurd rfl h
 | [],_ :: _,h,_=>by cases h
 | _ :: _,[],h,_=>by cases h
 | x :: a,y :: b,h,hne=>by
  unfold aJl
  by_cases e:x=y
  .subst e
   rw [if_pos rfl,if_pos rfl];exact aTq a b (by simpa using h) (fun e=>hne (by rw [e]))
  .rw [if_neg e,if_neg (Ne.symm e)]
   simp;omega
theorem bG5 (a:List Int):aBx a a=false:=by unfold aBx;rw [aVf];simp
theorem bDo {a b:List Int} (h:aBx a b=true):aBx b a=false:=by
 unfold aBx at *;simp only [Bool.and_eq_true,decide_eq_true_eq] at h
 rw [aXs a b h.2];simp
theorem aR9 {a b c:List Int} (h:aBx a b=true) (k:aBx b c=true):aBx a c=true:=by
 unfold aBx at *;simp only [Bool.and_eq_true,decide_eq_true_eq] at *
 exact ⟨h.1.trans k.1,aTr a b c h.2 k.2⟩
theorem bAb {a b:List Int} (hl:a.length=b.length):(aBx a b||aBx b a)=decide (a≠b):=by
 unfold aBx;rw [decide_eq_true hl,decide_eq_true hl.symm,Bool.true_and,Bool.true_and]
 by_cases e:a=b
 .subst e;rw [aVf];simp
 .rw [decide_eq_true e,Bool.or_eq_true];exact aTq a b hl e
theorem bGm (a b c:List Int):(aBx a b=true->aBx b a=false)/\(aBx a b=true->aBx b c=true->aBx a c=true)/\(a.length=b.length->(aBx a b||aBx b a) = !decide (a=b))/\(a.length≠b.length->aBx a b=false/\aBx b a=false):=by
 refine ⟨bDo,aR9,fun h=>?_,fun h=>?_⟩
 .rw [bAb h]
  by_cases e:a=b <;> simp [e]
 .unfold aBx
  rw [decide_eq_false h,decide_eq_false (Ne.symm h)];simp
open Go.RowKit
theorem aB7.cells {w:World} {A:Option Addr} {l:List Int} (h:aB7 w A l.length l):aTd w 1 A l.length (l.map (Value.int .i64)):=by
 refine ⟨by simp,fun j u hu=>?_⟩
 rw [List.getElem?_map] at hu;cases hx:l[j]? with
 | none=>rw [hx] at hu;cases hu
 | some x =>
  rw [hx] at hu;obtain rfl:Value.int .i64 x=u:=by simpa using hu
  obtain ⟨b,o,e,_,hc⟩:=h.2 j x hx;exact ⟨b,o,e,by simpa [aKc] using hc⟩
theorem aJj (l:List Int):∀ u∈l.map (Value.int .i64),u.oneCell'=true:=by
 intro u hu
 obtain ⟨x,_,rfl⟩:=List.mem_map.1 hu;rfl
def Off (g:Nat) (A:Option Addr):Prop:=∀ b o,A=some ⟨b,o,none⟩->b≠g
theorem aB7.other {w:World} {A:Option Addr} {l:List Int} {g v:Nat} {x:Value} (h:aB7 w A l.length l) (ho:Off g A):aB7 (w.setCell ⟨g,v,none⟩ x) A l.length l:=by
 refine ⟨rfl,fun i y hy=>?_⟩
 obtain ⟨b,o,rfl,hb,hc⟩:=h.2 i y hy
 exact ⟨b,o,rfl,by simpa using hb,by
  unfold aKc at *;rw [((Fr.refl g w).set v x).cell hb (ho b o rfl)];exact hc⟩
structure OwnC (w:World) (base g cap:Nat) (d:aA8) (hs:List Value):Prop where
 own:w.ownsRow base 26 1 (.slice (some ⟨g,0,none⟩) d.length cap) d.length hs
 rows:∀ u (hu:u<d.length),∃ R c',hs[u]?=some (.slice R d[u].length c')/\aB7 w R d[u].length d[u]/\d[u].length<=c'/\c'<=maxLen/\Off g R
theorem OwnC.keep {w w':World} {base g cap:Nat} {d:aA8} {hs:List Value} (h:OwnC w base g cap d hs) (k:Bel w w'):OwnC w' base g cap d hs :=
 ⟨k.owns h.own,fun u hu=>by
  obtain ⟨R,c',h1,h2,h3⟩:=h.rows u hu;exact ⟨R,c',h1,h2.keep k,h3⟩⟩
theorem OwnC.conf {w:World} {base g cap:Nat} {d:aA8} {hs:List Value} (h:OwnC w base g cap d hs):aDf w (.slice (some ⟨g,0,none⟩) d.length cap) d:=by
 obtain ⟨h1,h2⟩:=aDp h.own;refine ⟨_,_,rfl,⟨rfl,fun u x hx=>?_⟩,h1,h2⟩
 have hu:u<d.length:=(List.getElem?_eq_some_iff.1 hx).1;have hxe:d[u]=x:=(List.getElem?_eq_some_iff.1 hx).2;obtain ⟨R,c',k1,k2,k3,k4,_⟩:=h.rows u hu;obtain ⟨g',e1,_,hlt,hc,_⟩:=aBv h.own k1;obtain rfl:g=g':=by simpa using e1
 subst hxe;exact ⟨g,0,rfl,hlt,R,c',by rw [Nat.zero_add,Nat.mul_one];exact hc,k2,k3,k4⟩
theorem OwnC.set {w:World} {base g cap:Nat} {d:aA8} {hs:List Value} (h:OwnC w base g cap d hs) {v:Nat} {l:List Int} {A:Option Addr} {c':Nat} (hv:v<d.length) (hl:aB7 w A l.length l) (h1:l.length<=c') (h2:c'<=maxLen) (ho:Off g A) :
  OwnC (w.setCell ⟨g,v,none⟩ (.slice A l.length c')) base g cap (d.set v l) (hs.set v (.slice A l.length c')):=by
 have hlen:hs.length=d.length:=by have:=h.own.1;omega
 refine ⟨by rw [List.length_set];exact (h.own.stored v _).1,fun u hu=>?_⟩
 rw [List.length_set] at hu
 by_cases he:v=u
 .subst he
  rw [List.getElem_set_self];exact ⟨A,c',List.getElem?_set_self (by omega),hl.other ho,h1,h2,ho⟩
 .rw [List.getElem_set_ne he]
  obtain ⟨R,c2,k1,k2,k3,k4,k5⟩:=h.rows u hu;exact ⟨R,c2,by rw [List.getElem?_set_ne he];exact k1,k2.other k5,k3,k4,k5⟩
def aW9 (w:World) (B:Nat) (A:Option Addr) (c:Nat) (l:List Int):Prop:=aB7 w A l.length l/\l.length<=c/\c<=maxLen/\∀ b o,A=some ⟨b,o,none⟩->B<=b/\b<w.heap.size
theorem aW9.off {w:World} {B:Nat} {A:Option Addr} {c:Nat} {l:List Int} (h:aW9 w B A c l) {g:Nat} (hg:g<B):Off g A:=fun b o e=>by have:=h.2.2.2 b o e;omega
theorem aW9.keep {w w':World} {B:Nat} {A:Option Addr} {c:Nat} {l:List Int} (h:aW9 w B A c l) (k:Bel w w'):aW9 w' B A c l:=⟨h.1.keep k,h.2.1,h.2.2.1,fun b o e=>⟨(h.2.2.2 b o e).1,Nat.lt_of_lt_of_le (h.2.2.2 b o e).2 k.size⟩⟩
theorem aW9.lower {w:World} {B B':Nat} {A:Option Addr} {c:Nat} {l:List Int} (h:aW9 w B A c l) (hB:B'<=B):aW9 w B' A c l:=⟨h.1,h.2.1,h.2.2.1,fun b o e=>⟨Nat.le_trans hB (h.2.2.2 b o e).1,(h.2.2.2 b o e).2⟩⟩
theorem aW9.gr {w w':World} {B:Nat} {A:Option Addr} {c:Nat} {l:List Int} {row:Option Nat} (h:aW9 w B A c l) (hg:Gr row w w') (ho:∀ b o,A=some ⟨b,o,none⟩->some b≠row):aW9 w' B A c l :=
 ⟨⟨rfl,fun i x hx=>by
  obtain ⟨b,o,e,hb,hc⟩:=h.1.2 i x hx;exact ⟨b,o,e,Nat.lt_of_lt_of_le hb hg.1,(hg.cell hb (ho b o e)).trans hc⟩⟩,h.2.1,h.2.2.1,fun b o e=>⟨(h.2.2.2 b o e).1,Nat.lt_of_lt_of_le (h.2.2.2 b o e).2 hg.1⟩⟩
theorem aNo {w:World} {base:Nat} {e:TypeId} {A:Option Addr} {n c:Nat} {l:List Int} (h:w.ownsRow base e 1 (.slice A n c) n (l.map (Value.int .i64))):n=l.length/\aW9 w base A c l:=by
 have hn:n=l.length:=by have:=h.1;simp at this;omega
 subst hn;obtain ⟨h1,h2⟩:=aDp h;refine ⟨rfl,aGj h,h1,h2,fun b o e=>?_⟩
 subst e
 rcases h.2 with ⟨hv,_⟩ | ⟨g',cap,cur,hv,hb,hg,_⟩
 .cases hv
 .injection hv with hA;injection hA with hA;injection hA with hA;subst hA;exact ⟨hb,lt_of_block hg⟩
theorem bGp {w:World} {base:Nat} {e:TypeId} {size n m cap:Nat} {B:Option Addr} {hs:List Value} (h:w.ownsRow base e size (.slice B n cap) n hs) (hn:n=m):w.ownsRow base e size (.slice B m cap) m hs:=by subst hn;exact h
theorem bGq {w:World} {base:Nat} {e:TypeId} {size n cap g o:Nat} {hs:List Value} (h:w.ownsRow base e size (.slice (some ⟨g,o,none⟩) n cap) n hs):g<w.heap.size:=by
 rcases h.2 with ⟨hv,_⟩ | ⟨g',_,_,hv,_,hg,_⟩
 .cases hv
 .injection hv with hA;injection hA with hA;injection hA with hA;subst hA;exact lt_of_block hg
theorem aJ1 (A:Option Addr) (n c:Nat):∀ u∈(#[Value.slice A n c]:Array Value).toList,u.oneCell'=true:=by simp [Value.oneCell']
structure AppC (w:World) (base:Nat) (B:Option Addr) (cap:Nat) (d:aA8) (hs:List Value):Prop where
 own:w.ownsRow base 26 1 (.slice B d.length cap) d.length hs
 rows:∀ u (hu:u<d.length),∃ R c',hs[u]?=some (.slice R d[u].length c')/\aW9 w base R c' d[u]/\∀ g o,B=some ⟨g,o,none⟩->Off g R
theorem AppC.nil (w:World) (base:Nat):AppC w base none 0 [] []:=⟨World.ownsRow_nil _ _ _ _,fun u hu=>absurd hu (by simp)⟩
theorem AppC.keep {w w':World} {base cap:Nat} {B:Option Addr} {d:aA8} {hs:List Value} (h:AppC w base B cap d hs) (k:Bel w w'):AppC w' base B cap d hs :=
 ⟨k.owns h.own,fun u hu=>by
  obtain ⟨R,c',h1,h2,h3⟩:=h.rows u hu;exact ⟨R,c',h1,h2.keep k,h3⟩⟩
theorem AppC.push {w w':World} {base cap n:Nat} {B:Option Addr} {d:aA8} {hs:List Value} (h:AppC w base B cap d hs) (hn:d.length=n) {l:List Int} {A:Option Addr} {c:Nat} (hN:aW9 w base A c l) (hoff:∀ g o,B=some ⟨g,o,none⟩->Off g A) {o:Obj}
  {B':Option Addr} {cap':Nat} (hown:w'.ownsRow base 26 1 (.slice B' (n+1) cap') (n+1) (hs++[.slice A l.length c])) (hgr:(w.alloc o).grownBy w' (Value.slice B n cap).ownBlock)
  (hat:(Value.slice B' (n+1) cap').ownBlock=(Value.slice B n cap).ownBlock∨(Value.slice B' (n+1) cap').ownBlock=some (w.alloc o).heap.size):AppC w' base B' cap' (d++[l]) (hs++[.slice A l.length c]):=by
 have hlen:hs.length=d.length:=by have:=h.own.1;omega
 have hg:Gr (Value.slice B n cap).ownBlock w w':=(Gr.of_bel ((Bel.refl w).alloc o)).trans (Gr.grown hgr)
 have hb0:∀ R:Option Addr,(∀ g o,B=some ⟨g,o,none⟩->Off g R)->∀ b o,R=some ⟨b,o,none⟩->some b≠(Value.slice B n cap).ownBlock:=by
  intro R hR b o e hb
  rcases h.own.2 with ⟨hv,_⟩ | ⟨g',_,_,hv,_,_,_⟩
  .injection hv with hA;subst hA;cases hb
  .injection hv with hA;subst hA
   obtain rfl:b=g':=by simpa [Value.ownBlock] using hb
   exact hR b 0 rfl b o e rfl
 have hnew:∀ R:Option Addr,∀ c (l:List Int),aW9 w base R c l->(∀ g o,B=some ⟨g,o,none⟩->Off g R)->∀ g o,B'=some ⟨g,o,none⟩->Off g R:=by
  intro R c l hR hRo g o' e b o2 eR hbg
  subst e;subst hbg
  rcases hat with hat | hat
  .exact hb0 R hRo b o2 eR (by rw [<- hat];simp [Value.ownBlock])
  .have:=(hR.2.2.2 b o2 eR).2
   simp [Value.ownBlock] at hat
   omega
 refine ⟨by rw [List.length_append,hn];exact hown,fun u hu=>?_⟩
 by_cases hu':u<d.length
 .obtain ⟨R,c',k1,k2,k3⟩:=h.rows u hu'
  rw [List.getElem_append_left hu'];exact ⟨R,c',by rw [List.getElem?_append_left (by omega)];exact k1,k2.gr hg (hb0 R k3),hnew R _ _ k2 k3⟩
 .have:u=d.length:=by simp at hu;omega
  subst this;rw [List.getElem_append_right (Nat.le_refl _)];simp only [Nat.sub_self,List.getElem_singleton]
  exact ⟨A,c,by rw [List.getElem?_append_right (by omega),hlen];simp,hN.gr hg (hb0 A hoff),hnew A _ _ hN hoff⟩
theorem AppC.ownC {w:World} {base cap g:Nat} {d:aA8} {hs:List Value} (h:AppC w base (some ⟨g,0,none⟩) cap d hs):OwnC w base g cap d hs :=
 ⟨h.own,fun u hu=>by
  obtain ⟨R,c',h1,h2,h3⟩:=h.rows u hu;exact ⟨R,c',h1,h2.1,h2.2.1,h2.2.2.1,h3 g 0 rfl⟩⟩
theorem AppC.form {w:World} {base cap:Nat} {B:Option Addr} {d:aA8} {hs:List Value} (h:AppC w base B cap d hs) (hd:0<d.length):∃ g,B=some ⟨g,0,none⟩:=by
 obtain ⟨g,cap',hv,_⟩:=h.own.form hd;injection hv with hA
 exact ⟨g,hA⟩
def bEq (l:List Int) (w:World) (e:Ending) (w':World):Prop:=∃ A c,e = .returned (.slice A l.length c)/\aW9 w' w.heap.size A c l/\Bel w w'
def bKe (d:aA8) (w:World) (e:Ending) (w':World):Prop:=∃ g cap hs,e = .returned (.slice (some ⟨g,0,none⟩) d.length cap)/\OwnC w' w.heap.size g cap d hs/\Bel w w'
theorem OwnC.zero {w:World} {base g cap n:Nat} {hs:List Value} (h:w.ownsRow base 26 1 (.slice (some ⟨g,0,none⟩) n cap) n hs) (hs0:hs=List.replicate n (.slice none 0 0)):OwnC w base g cap (List.replicate n []) hs:=by
 refine ⟨by rw [List.length_replicate];exact h,fun u hu=>?_⟩
 rw [List.length_replicate] at hu;refine ⟨none,0,?_,?_,?_,?_,fun b o e=>by cases e⟩
 .subst hs0;rw [List.getElem_replicate];rw [List.getElem?_replicate,if_pos hu];rfl
 .rw [List.getElem_replicate];exact aAh.nil
 .rw [List.getElem_replicate];exact Nat.le_refl _
 .unfold maxLen;omega
theorem bE4:(prog.info? 26).map (fun i=>(i.zero,i.size,i.bytes))=some (some (.slice none 0 0),1,24):=by kernel_rfl
theorem aR4:(prog.info? 3).map (fun i=>(i.zero,i.size,i.bytes))=some (some (.int .i64 0),1,8):=by kernel_rfl
theorem bAu (v:Value) (c:aA8) (w:World) (h:aDf w v c) (hL:aE1 c=true) (hpos:0<c.length) :
  Calls prog 119 #[v] w (bKe c w):=by
 obtain ⟨A,k,rfl,hR,_,_⟩:=h;have HR:=aA1 (fun w' (kk:Bel w w')=>hR.keep kk);obtain ⟨l1,l2⟩:=aFg hL;have HL2:=aA1 l2;clear hR l2 hL;obtain ⟨i0,hi0,hz0,hz1,hz2⟩:=info_parts bE4;obtain ⟨j0,hj0,hy0,hy1,hy2⟩:=info_parts aR4;have HW:=Bel.refl w;go_enter func119,ntmps119;go_wp2
 go_loopg [3,4] c.length (fun m x z wr=>∃ (v:Nat) (B:Option Addr) (cb:Nat) (hs:List Value),v<=c.length/\m=c.length-v/\x = .slice B v cb/\z = .int .i64 v/\Hid (AppC wr w.heap.size B cb (c.take v) hs)/\Bel w wr)
 case atStart=>exact ⟨0,none,0,[],by omega,rfl,rfl,rfl,AppC.nil _ _,HW⟩
 case round =>
  clear HW;obtain ⟨v,B,cb,hs,hv,rfl,rfl,rfl,HO,HW⟩:=hrel
  by_cases hlt:v<c.length
  .have hd0:decide (v<c.length)=true:=by simpa using hlt
   obtain ⟨b,o,R,rc,rfl,hbl,hcell,hI,_,_⟩:=(HR.out _ HW).at_ v hlt;have hle:=HL2.out _ (List.getElem_mem hlt);have HI:=aA1 hI;have HT:Hid ((c.take v).length=v):=by show _=_;rw [List.length_take];omega
   clear hI
   go_wp2_with (first
    | (at_builtin;refine aDr _ rfl (.const (.slice none 0 0)) (.tmp 15) 26 rfl wr.heap.size 3 j0 (.int .i64 0) 1 8 underlying26 hj0 hy0 hy1 hy2 rfl (by decide) none 0 0 [] rfl (World.ownsRow_nil _ _ _ _) R c[v].length rc (c[v].map (Value.int .i64)) rfl HI.out.cells (aJj _) (by unfold maxLen;omega) (by omega) (Nat.le_refl _) ?_;intro A3 c3 w3 hown3 hgr3 _;rw [List.nil_append,Nat.zero_add] at hown3;have hb3:=(Bel.refl wr).grown hgr3 (fun k hk=>by cases hk);obtain ⟨_,hN⟩:=aNo hown3;have HN:=aA1 hN;have HO3:=aA1 (HO.out.keep hb3);have HOV:=aA1 (bGp HO3.out.own HT.out);have hszr:=HW.size;have hoffA:∀ g o,B=some ⟨g,o,none⟩->Off g A3:=(fun g o e=>HN.out.off (by have:=HO.out.own;subst e;exact (bGq this)));replace HW:=HW.trans hb3;clear hown3 hgr3 hb3 hN)
    | (at_builtin;refine aC5 _ rfl (.tmp 11) (.tmp 17) 30 rfl w.heap.size 26 i0 (.slice none 0 0) 1 24 underlying30 hi0 hz0 hz1 hz2 rfl (by decide) B v cb hs rfl (HOV.out.alloc _) w3.heap.size #[.slice A3 c[v].length c3] 26 (0,0) rfl (aBr _ _) rfl (aJ1 _ _ _) (by unfold maxLen;omega) (by omega) (by have:=HW.size;simp;omega) ?_;intro B4 c4 w4 hown4 hgr4 hat4;have HP:=aA1 (HO3.out.push HT.out (HN.out.lower hszr) hoffA hown4 hgr4 hat4);replace HW:=(HW.alloc _).push (HOV.out.alloc _) hgr4;clear hown4 hgr4 hat4))
   go_roundg (c.length-(v+1))
   case rel =>
    refine ⟨v+1,B4,c4,hs++[.slice A3 c[v].length c3],by omega,rfl,rfl,by go_num,?_,HW⟩
    show AppC _ _ _ _ _ _
    rw [List.take_succ_eq_append_getElem hlt];exact HP.out
   case measure=>omega
  .have hd0:decide (v<c.length)=false:=by simpa using hlt
   obtain rfl:v=c.length:=by omega
   go_wp2_with fail
   go_ret;have hO:=HO.out;rw [List.take_of_length_le (Nat.le_refl _)] at hO;obtain ⟨gb,rfl⟩:=hO.form hpos;exact ⟨gb,_,hs,rfl,hO.ownC,HW⟩
def aEb (n:Nat) (bs:List (Nat × Nat)):List Value:=bs.map fun b=>Value.slice (some ⟨b.1,0,none⟩) n b.2
theorem aMu {n:Nat} {bs:List (Nat × Nat)} {u:Nat} {b:Nat × Nat} (h:bs[u]?=some b):(aEb n bs)[u]?=some (.slice (some ⟨b.1,0,none⟩) n b.2):=by
 unfold aEb;rw [List.getElem?_map,h];rfl
structure RowsC (w:World) (base:Nat) (B:Option Addr) (cap n:Nat) (d:aA8) (bs:List (Nat × Nat)):Prop where
 own:w.ownsRow base 26 1 (.slice B d.length cap) d.length (aEb n bs)
 rows:∀ (u:Nat) (x:List Int),d[u]?=some x->∃ b,bs[u]?=some b/\w.ownsRow base 3 1 (.slice (some ⟨b.1,0,none⟩) n b.2) n (x.map (Value.int .i64))
 apart:∀ (u v:Nat) (a b:Nat × Nat),bs[u]?=some a->bs[v]?=some b->u≠v->a.1≠b.1
theorem RowsC.nil (w:World) (base n:Nat):RowsC w base none 0 n [] []:=⟨World.ownsRow_nil _ _ _ _,fun u x h=>by simp at h,fun u v a b h=>by simp at h⟩
theorem RowsC.keep {w w':World} {base cap n:Nat} {B:Option Addr} {d:aA8} {bs:List (Nat × Nat)} (h:RowsC w base B cap n d bs) (k:Bel w w'):RowsC w' base B cap n d bs :=
 ⟨k.owns h.own,fun u x hx=>by
  obtain ⟨b,h1,h2⟩:=h.rows u x hx;exact ⟨b,h1,k.owns h2⟩,h.apart⟩
theorem RowsC.length {w:World} {base cap n:Nat} {B:Option Addr} {d:aA8} {bs:List (Nat × Nat)} (h:RowsC w base B cap n d bs):bs.length=d.length:=by
 have:=h.own.1;unfold aEb at this;rw [List.length_map] at this;omega
theorem RowsC.off {w:World} {base cap n m cap' g:Nat} {B:Option Addr} {d:aA8} {bs:List (Nat × Nat)} (h:RowsC w base B cap n d bs) {l:List Value} (hr:w.ownsRow base 3 1 (.slice (some ⟨g,0,none⟩) m cap') m l):some g≠(Value.slice B d.length cap).ownBlock:=by
 rcases aCq h.own hr (by decide) with e | e
 .simp [Value.ownBlock] at e
 .simpa [Value.ownBlock] using e
theorem RowsC.push {w w3 w':World} {base cap n:Nat} {B:Option Addr} {d:aA8} {bs:List (Nat × Nat)} (h:RowsC w base B cap n d bs) (hbase:base<=w.heap.size) {l:List Int} {g c:Nat} {m:Nat} (hm:d.length=m)
  (hN:w3.ownsRow w.heap.size 3 1 (.slice (some ⟨g,0,none⟩) n c) n (l.map (Value.int .i64))) (hb:Bel w w3) {o:Obj}
  {B':Option Addr} {cap':Nat} (hown:w'.ownsRow base 26 1 (.slice B' (m+1) cap') (m+1) (aEb n bs++[.slice (some ⟨g,0,none⟩) n c])) (hgr:(w3.alloc o).grownBy w' (Value.slice B m cap).ownBlock) :
  RowsC w' base B' cap' n (d++[l]) (bs++[(g,c)]):=by
 subst hm;have hk:=h.keep hb;have hlen:=h.length;have hg:Gr (Value.slice B d.length cap).ownBlock w3 w':=(Gr.of_bel ((Bel.refl w3).alloc o)).trans (Gr.grown hgr);have hN':=aGr hN hbase;have hgl:=(aAf hN).1;refine ⟨by rw [List.length_append];unfold aEb at *;rw [List.map_append];exact hown,fun u x hx=>?_,fun u v a b ha hv huv=>?_⟩
 .by_cases hu:u<d.length
  .rw [List.getElem?_append_left hu] at hx
   obtain ⟨b,h1,h2⟩:=hk.rows u x hx;exact ⟨b,by rw [List.getElem?_append_left (by omega)];exact h1,aYf h2 hg (hk.off h2)⟩
  .have hul:u=d.length:=by
    have:=(List.getElem?_eq_some_iff.1 hx).1;simp at this;omega
   subst hul;rw [List.getElem?_append_right (Nat.le_refl _)] at hx;obtain rfl:l=x:=by simpa using hx
   exact ⟨(g,c),by rw [List.getElem?_append_right (by omega),hlen];simp,aYf hN' hg (hk.off hN')⟩
 .have old:∀ (u:Nat) (a:Nat × Nat),u<d.length->bs[u]?=some a->a.1<w.heap.size:=fun u a hu ha=>by
   obtain ⟨b,h1,h2⟩:=h.rows u d[u] (List.getElem?_eq_getElem hu);rw [h1] at ha;injection ha with ha
   subst ha;exact bGq h2
  have new:∀ (u:Nat) (a:Nat × Nat),¬ u<d.length->(bs++[(g,c)])[u]?=some a->u=d.length/\a=(g,c):=fun u a hu ha=>by
   have h1:=(List.getElem?_eq_some_iff.1 ha).1;simp at h1
   have h2:u=d.length:=by omega
   subst h2;rw [List.getElem?_append_right (by omega),hlen] at ha
   exact ⟨rfl,by simpa using ha.symm⟩
  by_cases h1:u<d.length
  .rw [List.getElem?_append_left (by omega)] at ha
   by_cases h2:v<d.length
   .rw [List.getElem?_append_left (by omega)] at hv
    exact h.apart u v a b ha hv huv
   .obtain ⟨_,rfl⟩:=new v b h2 hv
    have:=old u a h1 ha;show a.1≠g
    omega
  .obtain ⟨e1,rfl⟩:=new u a h1 ha
   by_cases h2:v<d.length
   .rw [List.getElem?_append_left (by omega)] at hv
    have:=old v b h2 hv;show g≠b.1
    omega
   .obtain ⟨e2,_⟩:=new v b h2 hv
    omega
theorem RowsC.conf {w:World} {base cap n g:Nat} {d:aA8} {bs:List (Nat × Nat)} (h:RowsC w base (some ⟨g,0,none⟩) cap n d bs):aDf w (.slice (some ⟨g,0,none⟩) d.length cap) d:=by
 obtain ⟨h1,h2⟩:=aDp h.own;refine ⟨_,_,rfl,⟨rfl,fun u x hx=>?_⟩,h1,h2⟩
 obtain ⟨b,k1,k2⟩:=h.rows u x hx;obtain ⟨g',e1,_,hlt,hc,_⟩:=aBv h.own (aMu k1);obtain rfl:g=g':=by simpa using e1
 obtain ⟨rfl,k3⟩:=aNo k2;exact ⟨g,0,rfl,hlt,_,b.2,by rw [Nat.zero_add,Nat.mul_one];exact hc,k3.1,k3.2.1,k3.2.2.1⟩
theorem RowsC.form {w:World} {base cap n:Nat} {B:Option Addr} {d:aA8} {bs:List (Nat × Nat)} (h:RowsC w base B cap n d bs) (hd:0<d.length):∃ g,B=some ⟨g,0,none⟩:=by
 obtain ⟨g,cap',hv,_⟩:=h.own.form hd;injection hv with hA
 exact ⟨g,hA⟩
theorem RowsC.put {w:World} {base cap n g:Nat} {d:aA8} {bs:List (Nat × Nat)} (h:RowsC w base (some ⟨g,0,none⟩) cap n d bs) {u:Nat} {b:Nat × Nat} {x:List Int} (hb:bs[u]?=some b) (hx:d[u]?=some x) (i:Nat) (y:Int) :
  RowsC (w.setCell ⟨b.1,i,none⟩ (.int .i64 y)) base (some ⟨g,0,none⟩) cap n (d.set u (x.set i y)) bs:=by
 have hFr:Fr b.1 w (w.setCell ⟨b.1,i,none⟩ (.int .i64 y)):=(Fr.refl b.1 w).set i _;obtain ⟨b',h1,h2⟩:=h.rows u x hx;rw [hb] at h1;injection h1 with h1
 subst h1;have hne:=h.off h2;refine ⟨by rw [List.length_set];exact aIb h.own hFr (fun e=>hne (by rw [e];rfl)),fun v z hz=>?_,h.apart⟩
 have hu:u<d.length:=(List.getElem?_eq_some_iff.1 hx).1
 by_cases he:u=v
 .subst he
  rw [List.getElem?_set_self hu] at hz;injection hz with hz
  subst hz;refine ⟨b,hb,?_⟩
  rw [List.map_set];exact (h2.stored i _).1
 .rw [List.getElem?_set_ne he] at hz
  obtain ⟨b2,k1,k2⟩:=h.rows v z hz;exact ⟨b2,k1,aIb k2 hFr (h.apart v u b2 b k1 hb (fun e=>he e.symm))⟩
structure BldC (w:World) (base gb n m:Nat) (d:aA8) (bs:List (Nat × Nat)):Prop where
 own:w.ownsRow base 26 1 (.slice (some ⟨gb,0,none⟩) n n) n (aEb m bs++List.replicate (n-d.length) (.slice none 0 0))
 rows:∀ (u:Nat) (x:List Int),d[u]?=some x->∃ b,bs[u]?=some b/\w.ownsRow base 3 1 (.slice (some ⟨b.1,0,none⟩) m b.2) m (x.map (Value.int .i64))
 apart:∀ (u v:Nat) (a b:Nat × Nat),bs[u]?=some a->bs[v]?=some b->u≠v->a.1≠b.1
 len:bs.length=d.length
theorem BldC.keep {w w':World} {base gb n m:Nat} {d:aA8} {bs:List (Nat × Nat)} (h:BldC w base gb n m d bs) (k:Bel w w'):BldC w' base gb n m d bs :=
 ⟨k.owns h.own,fun u x hx=>by
  obtain ⟨b,h1,h2⟩:=h.rows u x hx;exact ⟨b,h1,k.owns h2⟩,h.apart,h.len⟩
theorem BldC.off {w:World} {base gb n m:Nat} {d:aA8} {bs:List (Nat × Nat)} (h:BldC w base gb n m d bs) {m' g cap':Nat} {l:List Value} (hr:w.ownsRow base 3 1 (.slice (some ⟨g,0,none⟩) m' cap') m' l):g≠gb:=by
 rcases aCq h.own hr (by decide) with e | e
 .simp [Value.ownBlock] at e
 .simpa [Value.ownBlock] using e
theorem BldC.start {w:World} {base gb n m:Nat} (h:w.ownsRow base 26 1 (.slice (some ⟨gb,0,none⟩) n n) n (List.replicate n (.slice none 0 0))):BldC w base gb n m [] [] :=
 ⟨by simpa [aEb] using h,fun u x hx=>by simp at hx,fun u v a b ha=>by simp at ha,rfl⟩
theorem BldC.push {w w1:World} {base gb n m:Nat} {d:aA8} {bs:List (Nat × Nat)} (h:BldC w base gb n m d bs) (hd:d.length<n) (hbase:base<=w.heap.size) (hb:Bel w w1) {gr c:Nat} {l:List Int}
  (hN:w1.ownsRow w.heap.size 3 1 (.slice (some ⟨gr,0,none⟩) m c) m (l.map (Value.int .i64))) :
  BldC (w1.setCell ⟨gb,d.length,none⟩ (.slice (some ⟨gr,0,none⟩) m c)) base gb n m (d++[l]) (bs++[(gr,c)]):=by
 have hk:=h.keep hb;have hlen:=h.len;have hN':=aGr hN hbase;have hgl:=(aAf hN).1;have hFr:Fr gb w1 (w1.setCell ⟨gb,d.length,none⟩ (.slice (some ⟨gr,0,none⟩) m c)):=(Fr.refl gb w1).set _ _;refine ⟨?_,fun u x hx=>?_,fun u v a b ha hv huv=>?_,by simp [hlen]⟩
 .have h1:=(hk.own.stored d.length (.slice (some ⟨gr,0,none⟩) m c)).1
  have e:(aEb m bs++List.replicate (n-d.length) (Value.slice none 0 0)).set d.length (.slice (some ⟨gr,0,none⟩) m c)=aEb m (bs++[(gr,c)])++List.replicate (n-(d++[l]).length) (.slice none 0 0):=by
   have hr:(aEb m bs).length=d.length:=by unfold aEb;rw [List.length_map,hlen]
   rw [List.set_append_right _ _ (by omega),hr,Nat.sub_self,show n-d.length=(n-(d.length+1))+1 by omega,List.replicate_succ,List.set_cons_zero]
   unfold aEb;rw [List.map_append,List.append_assoc,List.length_append];rfl
  rw [e] at h1;exact h1
 .by_cases hu:u<d.length
  .rw [List.getElem?_append_left hu] at hx
   obtain ⟨b,h1,h2⟩:=hk.rows u x hx;exact ⟨b,by rw [List.getElem?_append_left (by omega)];exact h1,aIb h2 hFr (hk.off h2)⟩
  .have hul:u=d.length:=by
    have:=(List.getElem?_eq_some_iff.1 hx).1;simp at this;omega
   subst hul;rw [List.getElem?_append_right (Nat.le_refl _)] at hx;obtain rfl:l=x:=by simpa using hx
   exact ⟨(gr,c),by rw [List.getElem?_append_right (by omega),hlen];simp,aIb hN' hFr (hk.off hN')⟩
 .have old:∀ (u:Nat) (a:Nat × Nat),u<d.length->bs[u]?=some a->a.1<w.heap.size:=fun u a hu ha=>by
   obtain ⟨b,h1,h2⟩:=h.rows u d[u] (List.getElem?_eq_getElem hu);rw [h1] at ha;injection ha with ha
   subst ha;exact bGq h2
  have new:∀ (u:Nat) (a:Nat × Nat),¬ u<d.length->(bs++[(gr,c)])[u]?=some a->u=d.length/\a=(gr,c):=fun u a hu ha=>by
   have h1:=(List.getElem?_eq_some_iff.1 ha).1;simp at h1
   have h2:u=d.length:=by omega
   subst h2;rw [List.getElem?_append_right (by omega),hlen] at ha
   exact ⟨rfl,by simpa using ha.symm⟩
  by_cases h1:u<d.length
  .rw [List.getElem?_append_left (by omega)] at ha
   by_cases h2:v<d.length
   .rw [List.getElem?_append_left (by omega)] at hv
    exact h.apart u v a b ha hv huv
   .obtain ⟨_,rfl⟩:=new v b h2 hv
    have:=old u a h1 ha;show a.1≠gr
    omega
  .obtain ⟨e1,rfl⟩:=new u a h1 ha
   by_cases h2:v<d.length
   .rw [List.getElem?_append_left (by omega)] at hv
    have:=old v b h2 hv;show gr≠b.1
    omega
   .obtain ⟨e2,_⟩:=new v b h2 hv
    omega
theorem BldC.put {w:World} {base gb n m:Nat} {d:aA8} {bs:List (Nat × Nat)} (h:BldC w base gb n m d bs) {u:Nat} {b:Nat × Nat} {x:List Int} (hb:bs[u]?=some b) (hx:d[u]?=some x) (i:Nat) (y:Int) :
  BldC (w.setCell ⟨b.1,i,none⟩ (.int .i64 y)) base gb n m (d.set u (x.set i y)) bs:=by
 have hFr:Fr b.1 w (w.setCell ⟨b.1,i,none⟩ (.int .i64 y)):=(Fr.refl b.1 w).set i _;obtain ⟨b',h1,h2⟩:=h.rows u x hx;rw [hb] at h1;injection h1 with h1
 subst h1;have hne:=h.off h2;refine ⟨by rw [List.length_set];exact aIb h.own hFr (fun e=>hne e.symm),fun v z hz=>?_,h.apart,by rw [List.length_set];exact h.len⟩
 have hu:u<d.length:=(List.getElem?_eq_some_iff.1 hx).1
 by_cases he:u=v
 .subst he
  rw [List.getElem?_set_self hu] at hz;injection hz with hz
  subst hz;refine ⟨b,hb,?_⟩
  rw [List.map_set];exact (h2.stored i _).1
 .rw [List.getElem?_set_ne he] at hz
  obtain ⟨b2,k1,k2⟩:=h.rows v z hz;exact ⟨b2,k1,aIb k2 hFr (h.apart v u b2 b k1 hb (fun e=>he e.symm))⟩
theorem BldC.done {w:World} {base gb n m:Nat} {d:aA8} {bs:List (Nat × Nat)} (h:BldC w base gb n m d bs) (hd:d.length=n):RowsC w base (some ⟨gb,0,none⟩) n m d bs:=by
 refine ⟨?_,h.rows,h.apart⟩
 have h1:=h.own;rw [hd,Nat.sub_self,List.replicate_zero,List.append_nil] at h1;rw [hd];exact h1
theorem BldC.head {w:World} {base gb n m:Nat} {d:aA8} {bs:List (Nat × Nat)} (h:BldC w base gb n m d bs) {u:Nat} {b:Nat × Nat} (hb:bs[u]?=some b):w.cell? ⟨gb,u,none⟩=some (.slice (some ⟨b.1,0,none⟩) m b.2):=by
 have hu:u<bs.length:=(List.getElem?_eq_some_iff.1 hb).1
 obtain ⟨g',e1,_,_,hc,_⟩:=aBv h.own (j:=u) (u := .slice (some ⟨b.1,0,none⟩) m b.2) (by
  rw [List.getElem?_append_left (by unfold aEb;rw [List.length_map];exact hu)]
  exact aMu hb)
 obtain rfl:gb=g':=by simpa using e1
 exact hc
theorem BldC.free {w:World} {base gb n m:Nat} {d:aA8} {bs:List (Nat × Nat)} (h:BldC w base gb n m d bs) (hd:d.length<n):w.cell? ⟨gb,d.length,none⟩=some (.slice none 0 0):=by
 obtain ⟨g',e1,_,_,hc,_⟩:=aBv h.own (j:=d.length) (u := .slice none 0 0) (by
  have hr:(aEb m bs).length=d.length:=by unfold aEb;rw [List.length_map,h.len]
  rw [List.getElem?_append_right (by omega),hr,Nat.sub_self,List.getElem?_replicate,if_pos (by omega)])
 obtain rfl:gb=g':=by simpa using e1
 exact hc
theorem RowsC.head {w:World} {base cap n g:Nat} {d:aA8} {bs:List (Nat × Nat)} (h:RowsC w base (some ⟨g,0,none⟩) cap n d bs) {u:Nat} {b:Nat × Nat} (hb:bs[u]?=some b):w.cell? ⟨g,u,none⟩=some (.slice (some ⟨b.1,0,none⟩) n b.2):=by
 obtain ⟨g',e1,_,_,hc,_⟩:=aBv h.own (aMu hb);obtain rfl:g=g':=by simpa using e1
 exact hc
def gF (p:Prg) (g:Graph) (c:aA8) (v:Nat):Int :=
 if 0<=aBy p.rules g c v then aSp ((aF8 (aAa p g)).getD v []) (aLv p g c v) (c.getD v []) else 0
def bBo (P D C:List Int) (x:Nat):Int:=aSp (P.take x) (D.take x) (C.take x)
theorem aX5 (P D C:List Int):bBo P D C 0=0:=by simp [bBo,aSp]
theorem aX2:∀ (P D C:List Int) (a b c:Int),P.length=D.length->D.length=C.length->aSp (P++[a]) (D++[b]) (C++[c])=aSp P D C+(b-c)*a
 | [],[],[],a,b,c,_,_=>by simp [aSp]
 | p :: P,d :: D,e :: C,a,b,c,h1,h2=>by
  have ih:=aX2 P D C a b c (by simpa using h1) (by simpa using h2)
  show (d-e)*p+aSp (P++[a]) (D++[b]) (C++[c])=(d-e)*p+aSp P D C+(b-c)*a
  rw [ih,Int.add_assoc]
 | [],_ :: _,_,_,_,_,h,_=>by simp at h
 | _ :: _,[],_,_,_,_,h,_=>by simp at h
 | [],[],_ :: _,_,_,_,_,h=>by simp at h
 | _ :: _,_ :: _,[],_,_,_,_,h=>by simp at h
theorem aX4 {P D C:List Int} {x:Nat} (h1:x<P.length) (h2:x<D.length) (h3:x<C.length):bBo P D C (x+1)=bBo P D C x+(D[x]-C[x])*P[x]:=by
 unfold bBo;rw [List.take_succ_eq_append_getElem h1,List.take_succ_eq_append_getElem h2,List.take_succ_eq_append_getElem h3,aX2 _ _ _ _ _ _ (by simp;omega) (by simp;omega)]
theorem aX3 {P D C:List Int} {x:Nat} (h1:P.length=x) (h2:D.length=x) (h3:C.length=x):bBo P D C x=aSp P D C:=by
 unfold bBo;rw [List.take_of_length_le (by omega),List.take_of_length_le (by omega),List.take_of_length_le (by omega)]
theorem bL1 {a b A B:Int} (h1 : -A<=a) (h2:a<=A) (h3:0<=b) (h4:b<=B) (hA:0<=A) : -(A*B)<=a*b/\a*b<=A*B:=by
 have h5:=Int.mul_le_mul_of_nonneg_right h2 h3;have h6:=Int.mul_le_mul_of_nonneg_right h1 h3;have h7:=Int.mul_le_mul_of_nonneg_left h4 hA;rw [Int.neg_mul] at h6;omega
structure RowSm (P D C:List Int) (n:Nat):Prop where
 lp:P.length=n
 ld:D.length=n
 lc:C.length=n
 le:n<=10
 p:∀ x (h:x<P.length),0<=P[x]/\P[x]<=32768
 d:∀ x (h:x<D.length) (h':x<C.length),-90000<=D[x]-C[x]/\D[x]-C[x]<=90000
 di:∀ x (h:x<D.length),-90000<=D[x]/\D[x]<=90000
 ci:∀ x (h:x<C.length),-90000<=C[x]/\C[x]<=90000
theorem RowSm.term {P D C:List Int} {n:Nat} (h:RowSm P D C n) {x:Nat} (hx:x<n) : -2949120000<=(D[x]'(by rw [h.ld];exact hx)-C[x]'(by rw [h.lc];exact hx))*P[x]'(by rw [h.lp];exact hx)/\(D[x]'(by rw [h.ld];exact hx)-C[x]'(by rw [h.lc];exact hx))*P[x]'(by rw [h.lp];exact hx)<=2949120000:=by
 have hp:=h.p x (by rw [h.lp];exact hx)
 have hd:=h.d x (by rw [h.ld];exact hx) (by rw [h.lc];exact hx)
 have:=bL1 (A:=90000) (B:=32768) hd.1 hd.2 hp.1 hp.2 (by decide)
 omega
theorem RowSm.part {P D C:List Int} {n:Nat} (h:RowSm P D C n):∀ x:Nat,x<=n -> -(x*2949120000:Int)<=bBo P D C x/\bBo P D C x<=x*2949120000
 | 0,_=>by rw [aX5];simp
 | x+1,hx=>by
  have ih:=h.part x (by omega)
  have ht:=h.term (x:=x) (by omega)
  rw [aX4 (by rw [h.lp];omega) (by rw [h.ld];omega) (by rw [h.lc];omega)]
  omega
theorem bK2 {p:Prg} {g:Graph} {c:aA8} (hm:aCp p g c=0) (hsz:aC7 p g<=32768) (hL:p.vars.length<=10) {v:Nat} (hv:v<c.length) (hen:0<=aBy p.rules g c v) :
  RowSm ((aF8 (aAa p g)).getD v []) (aLv p g c v) (c.getD v []) p.vars.length:=by
 have hf:=(aBn hm).1;have hS:=aEd hf;have hcl:=aCa hm;have hg:=(aAe hf).2.1;have hvt:v<(aAa p g).length:=by rw [aAj,hg.ids,<- hcl];exact hv
 have hrow:(aAa p g)[v].length=p.vars.length:=aOv hvt;have hin:=aNf hm;have h1:=(aOh.1 hin).2 v hv hvt;have hst:=aOg.1 h1;have hst2:=aCn.1 (aTt hm hv hen);have e1:c.getD v []=c[v]:=aA7 hv
 have e2:(aF8 (aAa p g)).getD v []=aE5 (aAq ((aAa p g).drop (v+1))) (aAa p g)[v]:=by
  rw [List.getD_eq_getElem?_getD,aLp hvt];rfl
 have e3:aEp p g v=(aAa p g)[v]:=by simp [aAa]
 rw [e3] at hst2
 have bnd:∀ {l:List Int},(l.length=(aAa p g)[v].length/\∀ i,(h1:i<l.length)->(h2:i<(aAa p g)[v].length)->(aAa p g)[v][i].1<=l[i]/\l[i]<=(aAa p g)[v][i].2)->∀ i (h:i<l.length),-4096<=l[i]/\l[i]<=80000:=by
  intro l hl i hi
  have h2:i<(aAa p g)[v].length:=by rw [<- hl.1];exact hi
  have h3:=hl.2 i hi h2;have h4:=hS.at_ hvt h2;omega
 have bd:=bnd hst2;have bc:=bnd hst;rw [e1,e2];refine ⟨by rw [aEv,hrow],by rw [hst2.1,hrow],by rw [hst.1,hrow],hL,fun x hx=>?_,fun x h h'=>?_,fun x h=>?_,fun x h=>?_⟩
 .have hx':x<(aAa p g)[v].length:=by rwa [aEv] at hx
  have hpx:(aE5 (aAq ((aAa p g).drop (v+1))) (aAa p g)[v])[x]=aAp ((aAa p g)[v].drop (x+1))*aAq ((aAa p g).drop (v+1)):=aRt _ _ x hx;rw [hpx];have:=aSc (aIe hf) hsz hvt (x+1);omega
 .have a1:=bd x h
  have a2:=bc x h';omega
 .have a1:=bd x h;omega
 .have a1:=bc x h;omega
theorem bIx {p:Prg} {g:Graph} {c:aA8} (hm:aCp p g c=0) (hsz:aC7 p g<=32768) (hL:p.vars.length<=10) {v:Nat} (hv:v<c.length) : -29491200000<=gF p g c v/\gF p g c v<=29491200000:=by
 unfold gF
 by_cases hen:0<=aBy p.rules g c v
 .rw [if_pos hen]
  have h:=bK2 hm hsz hL hv hen;have h2:=h.part _ (Nat.le_refl _);rw [aX3 h.lp h.ld h.lc] at h2;omega
 .rw [if_neg hen];omega
theorem bMn {p:Prg} {g:Graph} {c:aA8} (hm:aCp p g c=0) {S:Nat} (hS:S<4294967296) (hw:aBh S (aCm p g c)=true) :
  aVo p g (aEy p g c S)=aVo p g c+((aB1 S).map (gF p g c)).sum:=by
 have hf:=(aBn hm).1;have hg:=(aAe hf).2.1;have hcl:=aCa hm;have hle:=hg.le
 have hen:∀ v,v<c.length->S.testBit v=true->0<=aBy p.rules g c v:=fun v hv hb=>by
  have:=aB5.1 hw v (by omega) hb
  rw [aKn] at this;simp at this
  exact this.2
 have hlt:S<2 ^ c.length:=by
  apply Nat.lt_pow_two_of_testBit
  intro i hi
  cases hb:S.testBit i with
  | false=>rfl
  | true =>
   have:=aB5.1 hw i (aP0 hS hb) hb;rw [aKn] at this;simp at this
   omega
 unfold aVo;rw [bBu _ _ _ (aNf hm) (aNf (bCb hm hen))]
 congr 1
 refine bIz (n:=c.length) (by omega) hlt (by rw [aD8,aAj,hg.ids,hcl]) (aFv _ _ _ _) rfl (fun v hv hb=>?_) (fun v hv hb=>?_)
 .rw [aSg p g c S hv,if_pos hb];unfold gF;rw [if_pos (hen v hv hb)]
 .rw [aSg p g c S hv,hb];rfl
theorem bEe {l:List Nat} {f:Nat->Int} {B:Int} (h:∀ v∈l,-B<=f v/\f v<=B) : -(l.length*B:Int)<=(l.map f).sum/\(l.map f).sum<=l.length*B:=by
 induction l with
 | nil=>simp
 | cons v l ih =>
  have h1:=h v (List.mem_cons_self ..);have h2:=ih fun w hw=>h w (List.mem_cons_of_mem _ hw);have e:((l.length+1:Nat):Int)*B=(l.length:Int)*B+B:=by rw [Int.natCast_add,Int.add_mul];simp
  rw [List.map_cons,List.sum_cons,List.length_cons,e];omega
theorem aP2 {g:Graph} {kind:Int} {E T:Nat} (hE:E<4294967296) (h:T∈(aBf g kind E).1):T<4294967296/\aBh T E=true:=by
 have key:T&&&E=T->T<4294967296/\aBh T E=true:=fun e=>by
  have hlt:T<4294967296:=by have:=aD1 e;omega
  exact ⟨hlt,(aJr hlt hE).1 e⟩
 unfold aBf at h;split at h
 .cases h
 split at h
 .obtain ⟨v,hv,rfl⟩:=List.mem_map.1 h
  obtain ⟨hv1,hv2⟩:=aDt.1 hv;refine ⟨aL8 hv1,?_⟩
  rw [aB5];intro u _ hu;rw [aMy] at hu;obtain rfl:v=u:=by simpa using hu
  exact hv2
 split at h
 .obtain rfl:T=E:=by simpa using h
  exact key (Nat.and_self _)
 split at h
 .cases h
 .rename_i h0 _ _ _
  have h1:=(List.mem_filter.1 h).1;have h2:=(aH6 hE (E-lsb E+1) _ (by omega) aFo (aKp hE h0) T).1 h1
  exact key h2.2
def aBe (x:Nat × Int):List Value:=[.int .u32 (x.1:Int),.int .i64 x.2]
theorem aJa (l:List (Nat × Int)) (i:Nat) (x:Nat × Int) (h:l[i]?=some x):(l.flatMap aBe)[i*2]?=some (.int .u32 (x.1:Int))/\(l.flatMap aBe)[i*2+1]?=some (.int .i64 x.2):=by
 induction l generalizing i with
 | nil=>simp at h
 | cons y l ih =>
  cases i with
  | zero =>
   obtain rfl:y=x:=by simpa using h
   simp [aBe]
  | succ i =>
   have:=ih i (by simpa using h)
   rw [show (i+1)*2+1=(i*2+1)+1+1 by omega,show (i+1)*2=i*2+1+1 by omega]
   simpa [aBe] using this
theorem aUp (l:List (Nat × Int)) (i:Nat) (x:Nat × Int) (y:Int) (h:l[i]?=some x):(l.flatMap aBe).set (i*2+1) (.int .i64 y)=(l.set i (x.1,y)).flatMap aBe:=by
 induction l generalizing i with
 | nil=>simp at h
 | cons z l ih =>
  cases i with
  | zero =>
   obtain rfl:z=x:=by simpa using h
   simp [aBe]
  | succ i =>
   have:=ih i (by simpa using h)
   rw [show (i+1)*2+1=(i*2+1)+1+1 by omega]
   simpa [aBe] using this
theorem aWf (l:List (Nat × Int)) (i:Nat) (x:Nat × Int) (h:i<l.length):((l.flatMap aBe).set (i*2) (.int .u32 (x.1:Int))).set (i*2+1) (.int .i64 x.2)=(l.set i x).flatMap aBe:=by
 induction l generalizing i with
 | nil=>simp at h
 | cons z l ih =>
  cases i with
  | zero=>simp [aBe]
  | succ i =>
   have:=ih i (by simpa using h)
   rw [show (i+1)*2+1=(i*2+1)+1+1 by omega,show (i+1)*2=i*2+1+1 by omega]
   simpa [aBe] using this
theorem aQf (l:List (Nat × Int)):(l.flatMap aBe).length=l.length*2:=by
 induction l with
 | nil=>rfl
 | cons z l ih=>rw [List.flatMap_cons,List.length_append,ih,List.length_cons];simp [aBe];omega
theorem aUq (m:Nat):(List.replicate m ((0,0):Nat × Int)).flatMap aBe=(madeCells (Value.agg #[.int .u32 0,.int .i64 0]).cells (m*2)).toList:=by
 apply List.ext_getElem?
 intro i
 by_cases hi:i<m*2
 .have h1:(List.replicate m ((0,0):Nat × Int))[i / 2]?=some (0,0):=by rw [List.getElem?_replicate,if_pos (by omega)]
  obtain ⟨f1,f2⟩:=aJa _ (i / 2) _ h1
  have hm:(madeCells (Value.agg #[.int .u32 0,.int .i64 0]).cells (m*2)).toList[i]?=some (if i % 2=0 then .int .u32 0 else .int .i64 0):=by
   simp [madeCells,Value.cells,hi]
   rcases Nat.mod_two_eq_zero_or_one i with h | h <;> simp [h]
  rw [hm]
  rcases Nat.mod_two_eq_zero_or_one i with h | h
  .rw [if_pos h,show i=i / 2*2 by omega];exact f1
  .rw [if_neg (by omega)];conv=>lhs;rw [show i=i / 2*2+1 by omega]
   exact f2
 .rw [List.getElem?_eq_none (by rw [aQf];simp;omega),List.getElem?_eq_none (by simp [madeCells];omega)]
def aHp (L:List (Nat × Int)) (i:Nat):List (Nat × Int):=L.take i++List.replicate (L.length-i) (0,0)
theorem bD5 (L:List (Nat × Int)):aHp L 0=List.replicate L.length (0,0):=by simp [aHp]
theorem bD4 (L:List (Nat × Int)):aHp L L.length=L:=by simp [aHp]
theorem aX8 {L:List (Nat × Int)} {i:Nat} (h:i<=L.length):(aHp L i).length=L.length:=by simp [aHp];omega
theorem bFn {L:List (Nat × Int)} {i:Nat} (h:i<L.length):(aHp L i).set i L[i]=aHp L (i+1):=by
 unfold aHp;rw [List.set_append_right _ _ (by simp;omega),List.length_take,Nat.min_eq_left (Nat.le_of_lt h),Nat.sub_self,show L.length-i=(L.length-(i+1))+1 by omega,List.replicate_succ,List.set_cons_zero]
 conv=>rhs;rw [List.take_succ_eq_append_getElem h,List.append_assoc]
 rfl
theorem aOa {p:Prg} {g:Graph} {c:aA8} (hm:aCp p g c=0) (hL:aAt p=true):aE1 c=true:=by
 have hf:=(aBn hm).1;have hg:=(aAe hf).2.1;have hcl:=aCa hm;have hle:=hg.le;have hv10:=(aAi hL).2.1;unfold aE1;rw [Bool.and_eq_true,decide_eq_true_eq,List.all_eq_true];refine ⟨by omega,fun r hr=>?_⟩
 obtain ⟨v,hv,rfl⟩:=List.getElem_of_mem hr;have hvt:v<(aAa p g).length:=by rw [aAj,hg.ids,<- hcl];exact hv
 have:=aIy ((aOh.1 (aNf hm)).2 v hv hvt);rw [aOv hvt] at this;simp;omega
def aCz (n k:Nat) (f:Nat->Nat):List Value:=(List.range n).map fun u=>Value.int .u32 ((if u<k then f u else 0:Nat):Int)
theorem aVg (n:Nat) (f:Nat->Nat):aCz n 0 f=List.replicate n (.int .u32 0):=by
 apply List.ext_getElem
 .simp [aCz]
 .intro i h1 h2;simp [aCz]
theorem aRi (n k:Nat) (f:Nat->Nat):(aCz n k f).length=n:=by simp [aCz]
theorem aXv (n k:Nat) (f:Nat->Nat):(aCz n k f).set k (.int .u32 (f k:Int))=aCz n (k+1) f:=by
 apply List.ext_getElem
 .simp [aCz]
 .intro i h1 h2
  rw [List.getElem_set]
  by_cases h:k=i
  .subst h;rw [if_pos rfl];simp [aCz]
  .rw [if_neg h]
   simp only [aCz,List.getElem_map,List.getElem_range]
   by_cases hi:i<k
   .rw [if_pos hi,if_pos (by omega)]
   .rw [if_neg hi,if_neg (by omega)]
theorem bAe {n k:Nat} {f:Nat->Nat} {u:Nat} (hu:u<k) (hn:u<n):(aCz n k f)[u]?=some (.int .u32 (f u:Int)):=by
 unfold aCz;rw [List.getElem?_map,List.getElem?_range hn];simp [hu]
theorem bBe {p:Prg} {g:Graph} {kind:Int} {c:aA8} (h5:g.ports.length<=5) (hc:c.length=g.ports.length):(aEq p g kind c).length<=31:=by
 unfold aEq;rw [List.length_map];refine (aG3 ?_).2.1
 have h1:=aVx c.length (fun u=>decide (0<=aBy p.rules g c u));have h2:2 ^ c.length<=2 ^ 5:=Nat.pow_le_pow_right (by decide) (by omega)
 unfold aCm;omega
def aQg (E:Nat) (n:Int):Nat->List (Nat × Int)->Bool
 | _,[]=>true
 | b,x :: l=>decide (b<x.1)&&aBh x.1 E&&decide (0<=x.2)&&decide (x.2<n)&&aQg E n x.1 l
def aFa (E:Nat) (n:Int) (l:List (Nat × Int)):Bool:=decide (E<16777216)&&(decide (E≠0)==decide (0<l.length))&&aQg E n 0 l
def aO2 (s:Spc):Bool:=decide (1<=s.enabled.length)&&decide (s.arcs.length=s.enabled.length)&&(List.range s.enabled.length).all fun k=>aFa (s.enabled.getD k 0) s.enabled.length (s.arcs.getD k [])
def wfS (s:Spc):Prop:=(∀ E∈s.enabled,E<4294967296)/\∀ l∈s.arcs,∀ x∈l,x.1<4294967296
def aM6 (s:Spc):Bool:=decide (s.enabled.length<=200)&&decide (s.arcs.length<=200)&&s.arcs.all fun l=>decide (l.length<=70)
theorem aI7 {s:Spc} (h:aM6 s=true):s.enabled.length<=200/\s.arcs.length<=200/\∀ l∈s.arcs,l.length<=70:=by
 unfold aM6 at h;simp only [Bool.and_eq_true,decide_eq_true_eq,List.all_eq_true] at h
 exact ⟨h.1.1,h.1.2,h.2⟩
theorem bIb {E:Nat} {n:Int} {b i:Nat} {l:List (Nat × Int)} (hi:i<l.length):aQg E n b (l.drop i)=(decide (b<l[i].1)&&aBh l[i].1 E&&decide (0<=l[i].2)&&decide (l[i].2<n)&&aQg E n l[i].1 (l.drop (i+1))):=by
 rw [List.drop_eq_getElem_cons hi];rfl
theorem bF3 {E:Nat} {n:Int} {b:Nat} {l:List (Nat × Int)}:aQg E n b (l.drop l.length)=true:=by rw [List.drop_length];rfl
theorem bG7 {a b:List Int} {i:Nat} (h1:i<a.length) (h2:i<b.length):aJl (a.drop i) (b.drop i)=if a[i]=b[i] then aJl (a.drop (i+1)) (b.drop (i+1)) else decide (a[i]<b[i]):=by
 rw [List.drop_eq_getElem_cons h1,List.drop_eq_getElem_cons h2]
 conv=>lhs;unfold aJl
theorem aGc (A:Option Addr) (c:Nat) (a:List Int) (A2:Option Addr) (c2:Nat) (b:List Int) (w:World) (h1:aB7 w A a.length a) (h2:aB7 w A2 b.length b) (hl:a.length<=1000000) :
  Calls prog 44 #[.slice A a.length c,.slice A2 b.length c2] w fun e w'=>e = .returned (.bool (aBx a b))/\Bel w w':=by
 have H1:=aA1 (fun w' (k:Bel w w')=>aB7.keep h1 k);clear h1;have H2:=aA1 (fun w' (k:Bel w w')=>aB7.keep h2 k);clear h2;have HF:Hid (aBx a b=(decide (a.length=b.length)&&aJl a b)):=rfl
 by_cases hn:a.length=b.length
 .have HN:=aA1 hn
  rw [decide_eq_true hn] at HF;rw [<- hn];clear hn;have hb:(a.length != a.length)=false:=by simp
  go_enter func44,ntmps44
  go_wp2_with fail
  clear hb
  go_loopg [5] a.length (fun q x wr=>∃ j:Nat,j<=a.length/\q=a.length-j/\Hid (aJl (a.drop j) (b.drop j)=aJl a b)/\x = .int .i64 j/\Bel w wr)
  case atStart=>exact ⟨0,by omega,rfl,rfl,rfl,Bel.refl w⟩
  case round =>
   obtain ⟨j,hj,rfl,HQ,rfl,HB⟩:=hrel
   by_cases hlt:j<a.length
   .have hlt2:j<b.length:=by rw [<- HN.out];exact hlt
    have hd0:decide (j<a.length)=true:=by simpa using hlt
    obtain ⟨b',o',rfl,hb',hl1⟩:=(H1.out _ HB).at_ j hlt;obtain ⟨b2,o2,rfl,hb2,hl2⟩:=(H2.out _ HB).at_ j hlt2;rw [bG7 hlt hlt2] at HQ;generalize a[j]=x at *;generalize b[j]=y at *
    by_cases he:x=y
    .rw [if_pos he] at HQ
     subst he;have hbb:(x != x)=false:=by simp
     go_wp2_with fail
     go_quiet (fail)
     go_wp2_with fail
     go_roundg (a.length-(j+1))
     case rel=>exact ⟨j+1,by omega,rfl,HQ,by go_num,HB.drewN _⟩
     case measure=>omega
    .rw [if_neg he] at HQ
     have hbb:(x != y)=true:=by simpa using he
     obtain ⟨r,hr⟩:∃ r,decide (x<y)=r:=⟨_,rfl⟩;rw [hr] at HQ;clear he
     go_wp2_with fail
     go_quiet (fail)
     go_wp2_with fail
     go_quiet (fail)
     go_wp2_with fail
     go_ret;exact ⟨aA2 (by rw [HF.out,<- HQ.out];rfl),(HB.drewN _).drewN _⟩
   .have hd0:decide (j<a.length)=false:=by simpa using hlt
    obtain rfl:j=a.length:=by omega
    have h0:aJl (a.drop a.length) (b.drop a.length)=false:=by rw [List.drop_length];rfl
    rw [h0] at HQ
    go_wp2_with fail
    go_ret;exact ⟨aA2 (by rw [HF.out,<- HQ.out];rfl),HB⟩
 .rw [decide_eq_false hn] at HF
  have hb:(a.length != b.length)=true:=by simpa using hn
  have hb2:((a.length:Int) != (b.length:Int))=true:=by simp;omega
  clear hn;go_enter func44,ntmps44
  go_wp2_with fail
  go_ret;exact ⟨aA2 (by rw [HF.out];rfl),Bel.refl w⟩
def bHz (x y:Int):Int:=if x<y then -1 else if y<x then 1 else 0
def bCw:List Int->List Int->Int
 | x :: a,y :: b=>if bHz x y=0 then bCw a b else bHz x y
 | _,_=>0
theorem aWt {x y:Int}:bHz x y=0↔x=y:=by
 unfold bHz;split
 .constructor
  .intro h;cases h
  .intro h;omega
 split
 .constructor
  .intro h;cases h
  .intro h;omega
 .constructor
  .intro _;omega
  .intro _;rfl
theorem bBk:∀ (a b:List Int),decide (bCw a b<0)=aJl a b
 | [],b=>by unfold bCw aJl;rfl
 | x :: a,[]=>by unfold bCw aJl;rfl
 | x :: a,y :: b=>by
  unfold bCw aJl
  by_cases h:x=y
  .rw [if_pos h,if_pos (aWt.2 h)];exact bBk a b
  .rw [if_neg h,if_neg (fun e=>h (aWt.1 e))]
   unfold bHz
   by_cases hl:x<y
   .rw [if_pos hl];simp [hl]
   .rw [if_neg hl,if_pos (by omega)];simp [hl]
theorem bFf {a b:List Int} {i:Nat} (h1:i<a.length) (h2:i<b.length):bCw (a.drop i) (b.drop i)=if bHz a[i] b[i]=0 then bCw (a.drop (i+1)) (b.drop (i+1)) else bHz a[i] b[i]:=by
 rw [List.drop_eq_getElem_cons h1,List.drop_eq_getElem_cons h2]
 conv=>lhs;unfold bCw
theorem aR6 (x:Int) (w:World):Calls prog 184 #[.int .i64 x] w fun e w'=>e = .returned (.bool false)/\w=w':=by
 have hb:(x != x)=false:=by simp
 go_enter func184,ntmps184
 go_wp2_with fail
 go_ret;exact ⟨rfl,rfl⟩
theorem aTi (x y:Int) (w:World):Calls prog 135 #[.int .i64 x,.int .i64 y] w fun e w'=>e = .returned (.int .i64 (bHz x y))/\w=w':=by
 have HF:Hid (bHz x y=if x<y then -1 else if y<x then 1 else 0):=rfl
 by_cases h1:x<y
 .rw [if_pos h1] at HF
  have d1:decide (x<y)=true:=by simpa using h1
  go_enter func135,ntmps135
  go_wp2_with (go_at_call 184;refine (aR6 _ _).mono ?_;rintro e w' ⟨rfl,rfl⟩)
  go_ret;exact ⟨aA4 (by rw [HF.out]),rfl⟩
 .rw [if_neg h1] at HF
  have d1:decide (x<y)=false:=by simpa using h1
  by_cases h2:y<x
  .rw [if_pos h2] at HF
   have d2:decide (y<x)=true:=by simpa using h2
   clear h1 h2;go_enter func135,ntmps135
   go_wp2_with (go_at_call 184;refine (aR6 _ _).mono ?_;rintro e w' ⟨rfl,rfl⟩)
   go_ret;exact ⟨aA4 (by rw [HF.out]),rfl⟩
  .rw [if_neg h2] at HF
   have d2:decide (y<x)=false:=by simpa using h2
   clear h1 h2;go_enter func135,ntmps135
   go_wp2_with (go_at_call 184;refine (aR6 _ _).mono ?_;rintro e w' ⟨rfl,rfl⟩)
   go_ret;exact ⟨aA4 (by rw [HF.out]),rfl⟩
theorem aYy (A:Option Addr) (c:Nat) (a:List Int) (A2:Option Addr) (c2:Nat) (b:List Int) (w:World) (h1:aB7 w A a.length a) (h2:aB7 w A2 b.length b) (hl:a.length<=1000000) (hn:a.length=b.length) :
  Calls prog 86 #[.slice A a.length c,.slice A2 b.length c2] w fun e w'=>e = .returned (.int .i64 (bCw a b))/\w=w':=by
 have H1:=aA1 h1;clear h1;have H2:=aA1 h2;clear h2;have HN:=aA1 hn;rw [<- hn];clear hn;have d0:decide (a.length<a.length)=false:=by simp
 have d0I:decide ((a.length:Int)<(a.length:Int))=false:=by simp
 go_enter func86,ntmps86
 go_wp2_with fail
 go_loopg [11] a.length (fun q x wr=>∃ j:Nat,j<=a.length/\q=a.length-j/\Hid (bCw (a.drop j) (b.drop j)=bCw a b)/\x = .int .i64 j/\w=wr)
 case atStart=>exact ⟨0,by omega,rfl,rfl,rfl,rfl⟩
 case round =>
  obtain ⟨j,hj,rfl,HQ,rfl,rfl⟩:=hrel
  by_cases hlt:j<a.length
  .have hlt2:j<b.length:=by rw [<- HN.out];exact hlt
   have hd0:decide (j<a.length)=true:=by simpa using hlt
   have hd1:decide (a.length<=j)=false:=by simp;omega
   have hd1I:decide ((a.length:Int)<=(j:Int))=false:=by simp;omega
   obtain ⟨b',o',rfl,hb',hl1⟩:=H1.out.at_ j hlt;obtain ⟨b2,o2,rfl,hb2,hl2⟩:=H2.out.at_ j hlt2;rw [bFf hlt hlt2] at HQ;generalize a[j]=x at *;generalize b[j]=y at *;obtain ⟨z,hz⟩:∃ z,bHz x y=z:=⟨_,rfl⟩;rw [hz] at HQ;have HZ:=aA1 hz;clear hz
   by_cases he:z=0
   .rw [if_pos he] at HQ
    subst he
    go_wp2_with (go_at_call 135;refine (aTi _ _ _).mono ?_;rintro e w' ⟨rfl,rfl⟩;rw [HZ.out])
    go_roundg (a.length-(j+1))
    case rel=>exact ⟨j+1,by omega,rfl,HQ,by go_num,rfl⟩
    case measure=>omega
   .rw [if_neg he] at HQ
    have hzb:(z != 0)=true:=by simpa using he
    clear he
    go_wp2_with (go_at_call 135;refine (aTi _ _ _).mono ?_;rintro e w' ⟨rfl,rfl⟩;rw [HZ.out])
    go_ret;exact ⟨aA4 (by rw [<- HQ.out]),rfl⟩
  .have hd0:decide (j<a.length)=false:=by simpa using hlt
   obtain rfl:j=a.length:=by omega
   have h0:bCw (a.drop a.length) (b.drop a.length)=0:=by rw [List.drop_length];rfl
   rw [h0] at HQ
   go_wp2_with fail
   go_ret;exact ⟨aA4 (by rw [<- HQ.out]),rfl⟩
theorem aFe (A:Option Addr) (c:Nat) (a:List Int) (A2:Option Addr) (c2:Nat) (b:List Int) (w:World) (h1:aB7 w A a.length a) (h2:aB7 w A2 b.length b) (hl:a.length<=1000000) :
  Calls prog 42 #[.slice A a.length c,.slice A2 b.length c2] w fun e w'=>e = .returned (.bool (aBx a b))/\w=w':=by
 have HF:Hid (aBx a b=(decide (a.length=b.length)&&aJl a b)):=rfl;have H1:=aA1 h1;clear h1;have H2:=aA1 h2;clear h2
 by_cases hn:a.length=b.length
 .rw [decide_eq_true hn,Bool.true_and,<- bBk] at HF
  have HN:=aA1 hn;have hb:(a.length==b.length)=true:=by simpa using hn
  have hbI:((a.length:Int)==(b.length:Int))=true:=by simp;omega
  obtain ⟨z,hz⟩:∃ z,bCw a b=z:=⟨_,rfl⟩;rw [hz] at HF;have HZ:=aA1 hz;clear hz hn;go_enter func42,ntmps42
  go_wp2_with (go_at_call 86;refine (aYy _ _ a _ _ b _ H1.out H2.out hl HN.out).mono ?_;rintro e w' ⟨rfl,rfl⟩;rw [HZ.out])
  go_ret;exact ⟨aA2 (by rw [HF.out]),rfl⟩
 .rw [decide_eq_false hn] at HF
  have hb:(a.length==b.length)=false:=by simpa using hn
  have hbI:((a.length:Int)==(b.length:Int))=false:=by simp;omega
  clear hn;go_enter func42,ntmps42
  go_wp2_with fail
  go_ret;exact ⟨aA2 (by rw [HF.out];rfl),rfl⟩
open Go.ChangeShapes Go.WideShapes Go.ChangeAt Go.RowKit Go.Deep
theorem Tryz.cells_ints:prog.cellsOf 26=1:=by kernel_rfl
theorem Tryz.cells_terms:prog.cellsOf 64=1:=by kernel_rfl
theorem Tryz.cells_str:prog.cellsOf 9=1:=by kernel_rfl
theorem Tryz.cells_link:prog.cellsOf 161=2:=by kernel_rfl
theorem Tryz.cells_links:prog.cellsOf 157=1:=by kernel_rfl
theorem Tryz.cells_ports:prog.cellsOf 27=1:=by kernel_rfl
theorem Tryz.cells_var:prog.cellsOf 159=6:=by kernel_rfl
theorem Tryz.cells_vars:prog.cellsOf 22=1:=by kernel_rfl
theorem Tryz.cells_set:prog.cellsOf 156=2:=by kernel_rfl
theorem Tryz.cells_sets:prog.cellsOf 152=1:=by kernel_rfl
theorem Tryz.cells_rule:prog.cellsOf 154=3:=by kernel_rfl
theorem Tryz.cells_rules:prog.cellsOf 23=1:=by kernel_rfl
theorem Tryz.cells_prg:prog.cellsOf 25=3:=by kernel_rfl
theorem Tryz.cells_graph:prog.cellsOf 29=2:=by kernel_rfl
section
variable {H:Type} {enc:TypeId × Value->H} {w:World} {base:Nat} {spare:Nat->Bool} {held:Bool}
def aQ8 (enc:TypeId × Value->H) (w:World) (base:Nat) (spare:Nat->Bool) (held:Bool) {α:Type} (e:TypeId) (size:Nat) (E:World->Nat->Nat->α->Prop):Prop :=
 ∀ n cs y b o,(∀ j,j<size->w.cell? ⟨b,o+j,none⟩=cs[j]?)->cs.length=size->DataW.trod enc prog w base spare held n e cs=some y->∃ x,E w b o x/\True
theorem aGb {α:Type} [Inhabited α] {t e:TypeId} {size:Nat} {E:World->Nat->Nat->α->Prop} (ht:prog.underlying t=some (.slice e)) (hC:prog.cellsOf e=size) (hsz:0<size)
  (hE:aQ8 enc w base spare held e size E):aQ8 enc w base spare held t 1 (aIu size E):=by
 intro n cs y b o hat hl h
 obtain ⟨A,n',c,xs,hcs,hr,_,h1,h2⟩:=aMo (E:=E) (Good:=fun _=>True) ht hC hsz hE h;subst hcs;have hn:=hr.1;subst hn;exact ⟨xs,⟨A,c,by simpa using hat 0 (by omega),hr,h1,h2⟩,trivial⟩
theorem aPb:aQ8 enc w base spare held 3 1 aKc:=fun n cs y b o h1 h2 h3=>by
 obtain ⟨x,hx,_⟩:=aRo underlying3 n cs y b o h1 h2 h3;exact ⟨x,hx,trivial⟩
theorem aJq:aQ8 enc w base spare held 115 2 aK3:=fun n cs y b o h1 h2 h3=>by
 obtain ⟨x,hx,_⟩:=aYe n cs y b o h1 h2 h3;exact ⟨x,hx,trivial⟩
theorem aOo {α:Type} {f:TypeId} {k:Nat} {E:World->Nat->Nat->α->Prop} (hE:aQ8 enc w base spare held f 1 E) {m i n:Nat} {cs:List Value} {u:Value} {xs:List (DataW H × List MemPlace)} {b o:Nat}
  (h:DataW.trod enc prog w base spare held m f cs=xs[i]?) (hl:xs.length=n) (hi:i<n) (hcs:cs=[u]) (hat:w.cell? ⟨b,o+k,none⟩=some u):∃ x,E w b (o+k) x:=by
 obtain ⟨y,hy⟩:=aEm h hl hi hcs
 obtain ⟨x,hx,_⟩:=hE m [u] y b (o+k) (fun j hj=>by
  obtain rfl:j=0:=by omega
  exact hat) rfl hy
 exact ⟨x,hx⟩
theorem aIp {f:TypeId} (hf:prog.underlying f=some .string) {m i n:Nat} {cs:List Value} {u:Value} {xs:List (DataW H × List MemPlace)}
  (h:DataW.trod enc prog w base spare held m f cs=xs[i]?) (hl:xs.length=n) (hi:i<n) (hcs:cs=[u]):∃ s,u = .string s:=by
 obtain ⟨y,hy⟩:=aEm h hl hi hcs;obtain ⟨s,hc,_,_⟩:=DataW.trod_string hf hy;exact ⟨s,by simpa using hc⟩
theorem aCi {m i n:Nat} {cs:List Value} {u:Value} {xs:List (DataW H × List MemPlace)}
  (h:DataW.trod enc prog w base spare held m 3 cs=xs[i]?) (hl:xs.length=n) (hi:i<n) (hcs:cs=[u]):∃ x,u = .int .i64 x:=by
 obtain ⟨y,hy⟩:=aEm h hl hi hcs;obtain ⟨x,hx,_,_⟩:=DataW.trod_int underlying3 hy;exact ⟨x,by simpa using hx⟩
theorem aYc:aQ8 enc w base spare held 161 2 aQ7:=by
 intro n cs y b o hat hl h
 obtain ⟨xs,m,_,_,_,hxl,hf⟩:=DataW.trod_struct underlying161 h
 match cs,hl with
 | [u,v],_ =>
  obtain ⟨x0,rfl⟩:=aCi (u:=u) (hf 0 _ rfl) hxl (by decide) (by simp [Tryz.cells_int])
  obtain ⟨x1,rfl⟩:=aCi (u:=v) (hf 1 _ rfl) hxl (by decide) (by simp [Tryz.cells_int])
  exact ⟨⟨x0,x1⟩,⟨by simpa using hat 0 (by omega),by simpa using hat 1 (by omega)⟩,trivial⟩
theorem bAl:aQ8 enc w base spare held 159 6 bCh:=by
 intro n cs y b o hat hl h
 obtain ⟨xs,m,_,_,_,hxl,hf⟩:=DataW.trod_struct underlying159 h
 match cs,hl with
 | [u0,u1,u2,u3,u4,u5],_ =>
  obtain ⟨s,rfl⟩:=aIp underlying9 (u:=u0) (hf 0 _ rfl) hxl (by decide) (by simp [Tryz.cells_str])
  obtain ⟨x1,rfl⟩:=aCi (u:=u1) (hf 1 _ rfl) hxl (by decide) (by simp [Tryz.cells_int])
  obtain ⟨x2,rfl⟩:=aCi (u:=u2) (hf 2 _ rfl) hxl (by decide) (by simp [Tryz.cells_int])
  obtain ⟨x3,rfl⟩:=aCi (u:=u3) (hf 3 _ rfl) hxl (by decide) (by simp [Tryz.cells_int])
  obtain ⟨x4,rfl⟩:=aCi (u:=u4) (hf 4 _ rfl) hxl (by decide) (by simp [Tryz.cells_int])
  obtain ⟨x5,rfl⟩:=aCi (u:=u5) (hf 5 _ rfl) hxl (by decide) (by simp [Tryz.cells_int])
  exact ⟨⟨s,x1,x2,x3,x4,x5⟩,⟨by simpa using hat 0 (by omega),by simpa using hat 1 (by omega),by simpa using hat 2 (by omega),by simpa using hat 3 (by omega),by simpa using hat 4 (by omega),by simpa using hat 5 (by omega)⟩,trivial⟩
theorem bAk:aQ8 enc w base spare held 156 2 aZf:=by
 intro n cs y b o hat hl h
 obtain ⟨xs,m,_,_,_,hxl,hf⟩:=DataW.trod_struct underlying156 h
 match cs,hl with
 | [u0,u1],_ =>
  obtain ⟨x0,rfl⟩:=aCi (u:=u0) (hf 0 _ rfl) hxl (by decide) (by simp [Tryz.cells_int])
  obtain ⟨x1,h1⟩:=aOo (k:=1) (u:=u1) (b:=b) (o:=o) (aGb underlying64 Tryz.cells_term (by decide) aJq) (hf 1 _ rfl) hxl (by decide) (by simp [Tryz.cells_terms]) (by simpa using hat 1 (by omega))
  exact ⟨⟨x0,x1⟩,⟨by simpa using hat 0 (by omega),h1⟩,trivial⟩
theorem aYd:aQ8 enc w base spare held 154 3 aWc:=by
 intro n cs y b o hat hl h
 obtain ⟨xs,m,_,_,_,hxl,hf⟩:=DataW.trod_struct underlying154 h
 match cs,hl with
 | [u0,u1,u2],_ =>
  obtain ⟨s,rfl⟩:=aIp underlying9 (u:=u0) (hf 0 _ rfl) hxl (by decide) (by simp [Tryz.cells_str])
  obtain ⟨x1,h1⟩:=aOo (k:=1) (u:=u1) (b:=b) (o:=o) (aGb underlying64 Tryz.cells_term (by decide) aJq) (hf 1 _ rfl) hxl (by decide) (by simp [Tryz.cells_terms]) (by simpa using hat 1 (by omega))
  obtain ⟨x2,h2⟩:=aOo (k:=2) (u:=u2) (b:=b) (o:=o) (aGb underlying152 Tryz.cells_set (by decide) bAk) (hf 2 _ rfl) hxl (by decide) (by simp [Tryz.cells_sets]) (by simpa using hat 2 (by omega))
  exact ⟨⟨s,x1,x2⟩,⟨by simpa using hat 0 (by omega),h1,h2⟩,trivial⟩
theorem aDo {α:Type} [Inhabited α] {t e:TypeId} {size:Nat} {E:World->Nat->Nat->α->Prop} (ht:prog.underlying t=some (.slice e)) (hC:prog.cellsOf e=size) (hsz:0<size)
  (hE:aQ8 enc w base spare held e size E) {fuel:Nat} {cs:List Value} {y:DataW H × List MemPlace} (h:DataW.trod enc prog w base spare held fuel t cs=some y) :
  ∃ (A:Option Addr) (c:Nat) (xs:List α),cs=[.slice A xs.length c]/\aAh size E w A xs.length xs/\xs.length<=c/\c<=maxLen:=by
 obtain ⟨A,n',c,xs,hcs,hr,_,h1,h2⟩:=aMo (E:=E) (Good:=fun _=>True) ht hC hsz hE h;have hn:=hr.1;subst hn;exact ⟨A,c,xs,hcs,hr,h1,h2⟩
theorem aTy {r:Reach} {b0:Nat} {v:Value} {d:DataW H} {p:List MemPlace} (h:DataW.Trod enc prog w base spare held 30 v d p) (hv:Value.okWide prog w r b0 30 v):∃ c:aA8,aDf w v c:=by
 obtain ⟨a,l,c',rfl⟩:=okWide_slice underlying30 hv;obtain ⟨fuel,h⟩:=h;obtain ⟨A,c,xs,hcs,hr,h1,h2⟩:=aDo underlying30 Tryz.cells_ints (by decide) (aGb underlying26 Tryz.cells_int (by decide) aPb) h
 exact ⟨xs,A,c,by simpa [Value.cells] using hcs,hr,h1,h2⟩
theorem aHu {r:Reach} {b0:Nat} {v:Value} {d:DataW H} {p:List MemPlace} (h:DataW.Trod enc prog w base spare held 29 v d p) (hv:Value.okWide prog w r b0 29 v):∃ g:Graph,aAl w v g:=by
 obtain ⟨cs,rfl,hsz⟩:=okWide_struct underlying29 hv;obtain ⟨l⟩:=cs;rw [Tryz.cells_graph] at hsz
 match l,hsz with
 | [u,v],_ =>
  obtain ⟨fuel,hf⟩:=h;obtain ⟨xs,m,_,_,_,hxl,hf⟩:=DataW.trod_struct underlying29 hf;obtain ⟨y0,h0⟩:=aEm (us:=[u]) (hf 0 _ rfl) hxl (by decide) (by simp [Tryz.cells_ints,Value.cells])
  obtain ⟨y1,h1⟩:=aEm (us:=[v]) (hf 1 _ rfl) hxl (by decide) (by simp [Tryz.cells_ints,Tryz.cells_ports,Value.cells])
  obtain ⟨A,c,ids,e0,a1,a2,a3⟩:=aDo underlying26 Tryz.cells_int (by decide) aPb h0
  obtain ⟨A2,c2,ports,e1,b1,b2,b3⟩:=aDo underlying27 Tryz.cells_links (by decide) (aGb underlying157 Tryz.cells_link (by decide) aYc) h1
  obtain rfl:u=_:=by simpa using e0
  obtain rfl:v=_:=by simpa using e1
  exact ⟨⟨ids,ports⟩,A,c,A2,c2,rfl,a1,a2,a3,b1,b2,b3⟩
theorem aKu {r:Reach} {b0:Nat} {v:Value} {d:DataW H} {p:List MemPlace} (h:DataW.Trod enc prog w base spare held 25 v d p) (hv:Value.okWide prog w r b0 25 v):∃ q:Prg,aE0 w v q:=by
 obtain ⟨cs,rfl,hsz⟩:=okWide_struct underlying25 hv;obtain ⟨l⟩:=cs;rw [Tryz.cells_prg] at hsz
 match l,hsz with
 | [s,u,v],_ =>
  obtain ⟨fuel,hf⟩:=h;obtain ⟨xs,m,_,_,_,hxl,hf⟩:=DataW.trod_struct underlying25 hf;obtain ⟨nm,rfl⟩:=aIp underlying9 (u:=s) (hf 0 _ rfl) hxl (by decide) (by simp [Tryz.cells_str,Value.cells])
  obtain ⟨y0,h0⟩:=aEm (us:=[u]) (hf 1 _ rfl) hxl (by decide) (by simp [Tryz.cells_str,Tryz.cells_vars,Value.cells])
  obtain ⟨y1,h1⟩:=aEm (us:=[v]) (hf 2 _ rfl) hxl (by decide) (by simp [Tryz.cells_str,Tryz.cells_vars,Tryz.cells_rules,Value.cells])
  obtain ⟨A,c,vars,e0,a1,a2,a3⟩:=aDo underlying22 Tryz.cells_var (by decide) bAl h0
  obtain ⟨A2,c2,rules,e1,b1,b2,b3⟩:=aDo underlying23 Tryz.cells_rule (by decide) aYd h1
  obtain rfl:u=_:=by simpa using e0
  obtain rfl:v=_:=by simpa using e1
  exact ⟨⟨nm,vars,rules⟩,A,c,A2,c2,rfl,a1,a2,a3,b1,b2,b3⟩
end
open Go.ChangeShapes Go.WideShapes Go.ChangeAt Go.WideMaps Go.WideElems Go.RowKit
theorem gTab : prog.globalNamed "math/bits.deBruijn32tab" = some 0 := by kernel_rfl
theorem tTab:(prog.globals[0]?).map (·.type)=some 279:=by kernel_rfl
theorem cTab1:prog.cellsOf 5=1:=by kernel_rfl
theorem bMc:prog.cellsOf 279=32:=by kernel_rfl
def aUs:List Int:=bruijn.map fun (n:Nat)=>(n:Int)
abbrev aGp : List (String × DataW Unit) := [("math/bits.deBruijn32tab", Rows.laid_math_bits_deBruijn32tab)]
theorem aLq {W:World} (h:laidMetH prog aGp W):aG1 W:=by
 rw [MakeChecks.laidMetH_plain _ _ _ (by kernel_rfl)] at h
 have ht : Lib.TabIs prog W "math/bits.deBruijn32tab" .u8 aUs :=
  Lib.tabIs_of_head gTab tTab underlying279 underlying5 cTab1 bMc (show laidMet prog [("math/bits.deBruijn32tab", Lib.tabData .u8 aUs)] W from h)
 have hc:∀ i,i<32->W.cell? ⟨0,i,none⟩=some (.int .u8 ((bruijn.getD i 0:Nat):Int)):=fun i hi=>by
  have h1:=ht.cell gTab i (by simpa [aUs,bruijn] using hi)
  rw [h1];have hb:i<bruijn.length:=by simpa [bruijn] using hi
  simp [aUs,List.getD_eq_getElem?_getD,hb]
 refine ⟨?_,hc⟩
 have h0:=hc 0 (by decide)
 rcases Nat.lt_or_ge 0 W.heap.size with h | h
 .exact h
 .simp [World.cell?,Array.getElem?_eq_none h] at h0
theorem aLd (os:Os) (args:Array Value):laidMetH prog aGp ((World.doorLaid prog 400 os).forCall (fun _ _=>0) ⟨#[],args,[]⟩).memory :=
 laidMetH_of_parts3 (fuel:=8) (laidMet_of_run' 8 (by kernel_rfl) (by kernel_rfl)) (by kernel_rfl) (by kernel_rfl)
end Go.Proofs.YtmifhmdghfbalaaGreatDoor

