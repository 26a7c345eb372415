/- Merged. -/
import Derived.Test.YtmoebklkkjbigaaGreatDoorZ23
import Derived.Test.YtmoebklkkjbigaaGreatDoorZ22
set_option linter.unusedSimpArgs false
set_option linter.unnecessarySimpa false
set_option linter.unusedVariables false
set_option maxRecDepth 100000
set_option maxHeartbeats 8000000
open Go.Proofs.Tryz

namespace Go.Proofs.YtmoebklkkjbigaaGreatDoor
open Go.RowKit
attribute [local go_sem] Oper.semAt_some
theorem Agr.of_bel {E:Nat->Prop} {A B C:World} (h:Agr E B C) (k:Bel A B):Agr E A C :=
 ⟨h.os.trans k.os,h.tape.trans k.tape,h.output.trans k.output,Nat.le_trans k.size h.size,fun i hi hn=>(h.block i (Nat.lt_of_lt_of_le hi k.size) hn).trans (k.block i hi)⟩
def bMx (bs:List (Nat × Nat)) (k:Nat):Prop:=∃ b∈bs,b.1=k
theorem RowsC.agr {E:Nat->Prop} {A B:World} {base cap n g:Nat} {d:aA3} {bs:List (Nat × Nat)} (h:RowsC A base (some ⟨g,0,none⟩) cap n d bs) (hA:Agr E A B) (hg:¬ E g) (hb:∀ b∈bs,¬ E b.1):RowsC B base (some ⟨g,0,none⟩) cap n d bs :=
 ⟨aH7 h.own hA hg,fun u x hx=>by
  obtain ⟨b,h1,h2⟩:=h.rows u x hx;exact ⟨b,h1,aH7 h2 hA (hb b (List.mem_of_getElem? h1))⟩,h.apart⟩
theorem RowsC.row_lt {A:World} {base cap n g:Nat} {d:aA3} {bs:List (Nat × Nat)} (h:RowsC A base (some ⟨g,0,none⟩) cap n d bs):∀ b∈bs,base<=b.1/\b.1<A.heap.size:=by
 intro b hb
 obtain ⟨u,hu,rfl⟩:=List.getElem_of_mem hb;have hd:u<d.length:=by rw [<- h.length];exact hu
 obtain ⟨b',h1,h2⟩:=h.rows u _ (List.getElem?_eq_getElem hd);rw [List.getElem?_eq_getElem hu] at h1;injection h1 with h1
 rw [h1];exact aAa h2
theorem RowsC.row_at {A:World} {base cap n g:Nat} {d:aA3} {bs:List (Nat × Nat)} (h:RowsC A base (some ⟨g,0,none⟩) cap n d bs) {u:Nat} {x:List Int} (hx:d[u]?=some x) :
  ∃ b,bs[u]?=some b/\A.cell? ⟨g,u,none⟩=some (.slice (some ⟨b.1,0,none⟩) n b.2)/\g<A.heap.size/\A.ownsRow base 3 1 (.slice (some ⟨b.1,0,none⟩) n b.2) n (x.map (Value.int .i64))/\b.1<A.heap.size/\g≠b.1:=by
 obtain ⟨b,h1,h2⟩:=h.rows u x hx;refine ⟨b,h1,h.head h1,(aAa h.own).2,h2,(aAa h2).2,fun e=>h.off h2 (by rw [<- e];rfl)⟩
theorem bKl.inRound {α:Type} {F:Fence} {n:Nat} {P:Program} {g:Nat} {lb:Array Value} {encs:α->Array Value} {Bs Rs:Nat->Prop} {S:List α} {w:World} (l:Nat) (h:bKl F n P g lb encs Bs Rs S w):bKl (F.inRound l) n P g lb encs Bs Rs S w:=h
def bP1 (w0:World) (gb cap m:Nat) (d:aA3) (bs:List (Nat × Nat)) (w:World) (e:Ending) (w':World):Prop :=
 (∃ v,e = .returned v)/\RowsC w' w0.heap.size (some ⟨gb,0,none⟩) cap m d bs/\Agr (bMx bs) w w'
theorem aZo (w0:World) (A:Option Addr) (ct gb cap m:Nat) (T:List (List (Int × Int))) (d:aA3) (bs:List (Nat × Nat)) (w:World) (hT:aFe w0 A T.length T) (hb0:Bel w0 w) (hC:RowsC w w0.heap.size (some ⟨gb,0,none⟩) cap m d bs)
  (hin:inN T d) (hm:∀ t∈T,t.length=m) (hs:aJw T) (hn:T.length<=24) (hm10:m<=10) (hn1:1<=T.length) (hm1:1<=m) :
  Calls prog 38 #[.slice A T.length ct,.slice (some ⟨gb,0,none⟩) d.length cap] w (bP1 w0 gb cap m (aHe T d).1 bs w):=by
 have HT:=aA0 (fun w' (k:Bel w0 w')=>hT.keep k);have HIN:=aA0 hin;have HM:=aA0 hm;have HS:=aA0 hs;have HDL:=aA0 (aNx hin);obtain ⟨b,o,_,_,rfl,hbt,_,_,_,_⟩:=hT.at_ 0 (by omega)
 -- the rows of the table, as functions
 have hrow:∀ v,∃ R:Option Addr × Nat,v<T.length->w0.cell? ⟨b,o+v,none⟩=some (.slice R.1 m R.2)/\aJ5 w0 R.1 m (T.getD v []):=fun v=>by
  by_cases hv:v<T.length
  .obtain ⟨b',o',R,rc,e1,_,hc,hR,_,_⟩:=hT.at_ v hv
   obtain ⟨rfl,rfl⟩:b=b'/\o=o':=by simpa using e1
   have hl:=hm _ (List.getElem_mem hv);have e2:T.getD v []=T[v]:=aA8 hv;refine ⟨(R,rc),fun _=>⟨?_,?_⟩⟩
   .rw [hl] at hc;exact hc
   .rw [e2];rw [hl] at hR;exact hR
  .exact ⟨(none,0),fun h=>absurd h hv⟩
 obtain ⟨R,hR⟩:∃ R:Nat->Option Addr × Nat,∀ v,v<T.length->w0.cell? ⟨b,o+v,none⟩=some (.slice (R v).1 m (R v).2)/\aJ5 w0 (R v).1 m (T.getD v []):=⟨fun v=>Classical.choose (hrow v),fun v=>Classical.choose_spec (hrow v)⟩;have HR:=aA0 hR;clear hrow hR hin hm hs;refine aFi func38 rfl ?_
 simp only [ntmps38,List.size_toArray,List.length_cons,List.length_nil,Nat.reduceAdd,Nat.reduceSub,Array.replicate_succ,Array.replicate_zero,List.push_toArray,List.append_toArray,List.nil_append,List.cons_append]
 go_wp2_with (go_at_call 86;refine (aWq _ _ _ _).mono ?_;rintro e w' ⟨rfl,rfl⟩)
 obtain ⟨W0,hW0⟩:∃ W0,(w.alloc (.cells #[.slice (some ⟨gb,0,none⟩) d.length cap] 66)).alloc (.cells #[.slice (some ⟨b,o,none⟩) T.length ct] 99)=W0:=⟨_,rfl⟩;have bC:Boxed W0 w.heap.size 66 (.slice (some ⟨gb,0,none⟩) d.length cap):=by rw [<- hW0];exact (Boxed.new w _ _).alloc _
 have bT:Boxed W0 (w.heap.size+1) 99 (.slice (some ⟨b,o,none⟩) T.length ct):=by
  rw [<- hW0];have:=Boxed.new (w.alloc (.cells #[.slice (some ⟨gb,0,none⟩) d.length cap] 66)) 99 (.slice (some ⟨b,o,none⟩) T.length ct);rw [World.size_alloc] at this;exact this
 have hbw:Bel w W0:=by rw [<- hW0];exact ((Bel.refl w).alloc _).alloc _
 have hz0:W0.heap.size=w.heap.size+1+1:=by rw [<- hW0];simp
 have hC0:=hC.keep hbw;have hrl:=hC.row_lt;have hgl:=aAa hC.own;have hws:=hb0.size;have hCE:Hid (RowsC w w0.heap.size (some ⟨gb,0,none⟩) cap m d bs):=hC;rw [hW0];clear hW0 hC;have rowE:∀ (N:Nat),w.heap.size<=N->∀ b'∈bs,b'.1≠N:=fun N hN b' hb' e=>by have:=(hrl b' hb').2;omega
 refine (wpIn_wide (n:=5)).1 ?_
 refine aFn (n:=5) rfl (by decide) (gf:=127) (lb:=#[.pointer (some ⟨w.heap.size+1,0,none⟩)]) (by simp [go_sem]) trivial (enters_of func127 (by kernel_rfl) rfl)
  (bL4 4 _ b o T.length ct (fun v=>(R v).1) (fun _=>m) (fun v=>(R v).2) W0 (by decide) bT (by have:=(hb0.trans hbw).size;omega) (fun v hv=>((hb0.trans hbw).cell hbt).trans (HR.out v hv).1) (by omega)) (by rintro k h;exact h.elim) (by rintro k (rfl | rfl) <;> omega) (fun _=>rfl) (fun k=>k=W0.heap.size∨k=W0.heap.size+1) (fun k=>by simp)
  (fun pre W=>Agr (bMx bs) W0 W/\RowsC W w0.heap.size (some ⟨gb,0,none⟩) cap m (aHm T d (T.length-pre.length)) bs/\(aHe (T.drop (T.length-pre.length)) (d.drop (T.length-pre.length))).2=true)
  (fun c pre W=>c = .ret/\Agr (bMx bs) W0 W/\RowsC W w0.heap.size (some ⟨gb,0,none⟩) cap m (aHe T d).1 bs)
  (fun s A' B' ⟨h1,h2,h3⟩ hg=>⟨h1.step hg (by rintro q hq (h | h) <;> omega),h2.agr hg (by omega) (fun b' hb'=>by have:=(hrl b' hb').2;omega),h3⟩)
  (fun c s A' B' ⟨h0,h1,h2⟩ hg=>⟨h0,h1.step hg (by rintro q hq (h | h) <;> omega),h2.agr hg (by omega) (fun b' hb'=>by have:=(hrl b' hb').2;omega)⟩)
  ⟨Agr.refl _ _,by simpa [aZs HDL.out] using hC0,by simpa using bKo T d⟩
  (fun x a' W=>∃ vb,Boxed W vb 3 (.int .i64 (x:Int))/\W0.heap.size+1<vb/\a'={ tmps:=#[.slice (some ⟨b,o,none⟩) T.length ct,.slice (some ⟨gb,0,none⟩) d.length cap,undef,.pointer (some ⟨w.heap.size,0,none⟩),.pointer (some ⟨vb,0,none⟩),.slice (R x).1 m (R x).2,undef,undef,.slice (some ⟨b,o,none⟩) T.length ct,.func (.func 127) #[] #[.pointer (some ⟨w.heap.size+1,0,none⟩)],.int .i64 (x:Int),.slice (R x).1 m (R x).2,undef,undef,undef,undef,undef,undef,undef,undef,undef,undef,undef,undef,undef,undef,undef,undef,undef,undef,undef,undef,undef,undef,undef,undef,undef,undef,undef,undef,undef,undef,undef],defers:=[] })
  (fun x a' A' B' ⟨vb,h1,h2,h3⟩ hg=>⟨vb,hg.boxed h1 (by omega),h2,h3⟩) ?assign ?body ?done ?stop
 case assign =>
  rintro pre x W K hp ⟨h1,h2,h3⟩ hl hK
  gi_wp2
  refine hK _ _ (aBf.alloc _ _ _) ⟨h1.trans (Agr.alloc _ _ _),h2.keep ((Bel.refl W).alloc _),h3⟩ ⟨W.heap.size,Boxed.new W _ _,hl,rfl⟩
 case done =>
  rintro W ⟨hA,hC',hcar⟩ hKd;rw [aXa,Nat.sub_self] at hC' hcar
  have hfin:(aHe T d).1=aHm T d 0:=by
   have:=aSm HIN.out (by simpa using hcar)
   rw [this,bE4]
  go_wp2;refine aD7 (B:=w.heap.size) (aE5.push (aE5.nil _ _) (by omega) hKd (by simp)) ?_
  intro W' hA2 hs2
  refine ⟨_,by simp [results,Tryz.results38,go_sem];rfl,⟨_,rfl⟩,?_,?_⟩
  .rw [hfin]
   exact ⟨aOa hC'.own hA2,fun u x hx=>by
    obtain ⟨b',k1,k2⟩:=hC'.rows u x hx;exact ⟨b',k1,aOa k2 hA2⟩,hC'.apart⟩
  .exact (hA.of_bel hbw).step hA2 (by rintro q hq ⟨h,_⟩;omega)
 case stop =>
  rintro c' pre W hp ⟨rfl,hA,hC'⟩ hKd;refine wpIn_wide.2 ?_
  go_wp2;refine aD7 (B:=w.heap.size) (aE5.push (aE5.nil _ _) (by omega) hKd (by simp)) ?_
  intro W' hA2 hs2
  refine ⟨_,by simp [results,Tryz.results38,go_sem];rfl,⟨_,rfl⟩,?_,?_⟩
  .exact ⟨aOa hC'.own hA2,fun u x hx=>by
    obtain ⟨b',k1,k2⟩:=hC'.rows u x hx;exact ⟨b',k1,aOa k2 hA2⟩,hC'.apart⟩
  .exact (hA.of_bel hbw).step hA2 (by rintro q hq ⟨h,_⟩;omega)
 case body =>
  rintro pre x a' W hp ⟨hA,hC',hcar⟩ ⟨vb,hVB,hvb,rfl⟩ hl ⟨r,hr⟩;have hx:=bCf hp;have hxt:x<T.length:=by omega
  have hbW:Bel w0 W:=hA.belE (hb0.trans hbw) (by rintro k ⟨b',hb',rfl⟩;exact (hrl b' hb').1)
  have hrx:=(HR.out x hxt).2;obtain ⟨b1,o1,hRx,hb1,_,_⟩:=hrx.at_ 0 (by rw [aA8 hxt,HM.out _ (List.getElem_mem hxt)];omega)
  obtain ⟨t,hte⟩:∃ t,t=T[x]:=⟨_,rfl⟩;obtain ⟨fy,hfy⟩:∃ fy:Nat->Int × Int,∀ y,fy y=T[x].getD y (0,0):=⟨_,fun _=>rfl⟩
  have HPC:Hid (∀ y,y<m->w0.cell? ⟨b1,o1+y*2,none⟩=some (.int .i64 (fy y).1)/\w0.cell? ⟨b1,o1+y*2+1,none⟩=some (.int .i64 (fy y).2)):=fun y hy=>by
   obtain ⟨b2,o2,e2,_,k0,k1⟩:=hrx.at_ y (by rw [aA8 hxt,HM.out _ (List.getElem_mem hxt)];exact hy)
   rw [hRx] at e2;obtain ⟨rfl,rfl⟩:b1=b2/\o1=o2:=by simpa using e2
   simp only [aA8 hxt] at k0 k1
   have hy':y<T[x].length:=by rw [HM.out _ (List.getElem_mem hxt)];exact hy
   rw [hfy,aA8 hy'];exact ⟨k0,k1⟩
  clear hrx;rw [hRx]
  gi_wp2_with (refine ⟨trivial,?_⟩;gi_at_call 87;refine (CallsIn.inRound _ (callsIn_wide.2 (aWp _ _ _ _))).mono ?_;rintro e w' ⟨rfl,rfl⟩)
  have hxd:x<d.length:=by rw [HDL.out];exact hxt
  obtain ⟨dx,hdx⟩:∃ dx,dx=d[x]:=⟨_,rfl⟩;have htl:t.length=m:=by rw [hte];exact HM.out _ (List.getElem_mem hxt)
  have hind:inL t dx:=by rw [hte,hdx];exact (aQw.1 HIN.out).2 x hxd hxt
  have hdl:dx.length=m:=by rw [aKc hind,htl]
  have hcut:T.length-pre.length=x+1:=by omega
  rw [hcut] at hC' hcar;have HCAR:=aA0 hcar;have hbk:=bE3 (T:=T) HDL.out hxt;rw [<- hdx] at hbk;have hbkl:(aHm T d (x+1)).length=T.length:=aWi HDL.out (by omega)
  have HFY:Hid (∀ y (h:y<t.length),fy y=t[y]):=fun y h=>by subst hte;rw [hfy,aA8 h]
  have HTE:=aA0 hte;have HDX:=aA0 hdx;clear hte hdx hfy;obtain ⟨W1,hW1⟩:∃ W1,W.alloc (.cells #[.slice (some ⟨b1,o1,none⟩) m (R x).2] 158)=W1:=⟨_,rfl⟩;have bR:Boxed W1 W.heap.size 158 (.slice (some ⟨b1,o1,none⟩) m (R x).2):=by rw [<- hW1];exact Boxed.new W _ _
  have hb1w:Bel W W1:=by rw [<- hW1];exact (Bel.refl W).alloc _
  have hz1:W1.heap.size=W.heap.size+1:=by rw [<- hW1];simp
  have hr1:W1.heap[W0.heap.size+1]?=some (.loop r):=(hb1w.block _ (Array.getElem?_eq_some_iff.1 hr).1).trans hr;have hVB1:=(hb1w.block vb hVB.lt).trans hVB;have hC1:=hC'.keep hb1w;have hsW0:=hA.size;have hbC:Boxed W w.heap.size 66 (.slice (some ⟨gb,0,none⟩) d.length cap):=hA.boxed bC (by rintro ⟨b',hb',e⟩;exact rowE _ (Nat.le_refl _) b' hb' e)
  have hbC1:=(hb1w.block _ hbC.lt).trans hbC;have hvl:=hVB.lt;rw [hW1];clear hW1;have HVB1:Hid (Boxed W1 vb 3 (.int .i64 (x:Int))):=hVB1;have HBC1:Hid (Boxed W1 w.heap.size 66 (.slice (some ⟨gb,0,none⟩) d.length cap)):=hbC1;clear hVB1 hbC1
  refine aZf (n:=5-1-1) (l₀:=W0.heap.size+1) (r₀:=r) rfl hr1 (by decide) (gf:=128) (lb:=#[.pointer (some ⟨W.heap.size,0,none⟩)]) (by simp [go_sem]) trivial (enters_of func128 (by kernel_rfl) rfl)
   (bKl.inRound _ (bL3 2 W.heap.size b1 o1 m (R x).2 fy W1 (by decide) bR (by have:=(hbW.trans hb1w).size;omega) (fun y hy=>⟨((hbW.trans hb1w).cell hb1).trans (HPC.out y hy).1,((hbW.trans hb1w).cell hb1).trans (HPC.out y hy).2⟩) (by omega))) (by rintro k h;exact h.elim) (by rintro k (rfl | rfl) <;> omega) (fun _=>rfl) (fun k=>k=W1.heap.size) (fun k=>by simp)
   (fun pre2 Wp=>Agr (bMx bs) W1 Wp/\RowsC Wp w0.heap.size (some ⟨gb,0,none⟩) cap m ((aHm T d (x+1)).set x (aKq t dx (m-pre2.length))) bs/\(aFo (t.drop (m-pre2.length)) (dx.drop (m-pre2.length))).2=true)
   (fun c pre2 Wp=>c = .ret/\Agr (bMx bs) W1 Wp/\RowsC Wp w0.heap.size (some ⟨gb,0,none⟩) cap m (aHe T d).1 bs)
   (fun s A' B' ⟨h1,h2,h3⟩ hg=>⟨h1.step hg (by rintro q hq h;omega),h2.agr hg (by omega) (fun b' hb'=>by have:=(hrl b' hb').2;omega),h3⟩)
   (fun c s A' B' ⟨h0,h1,h2⟩ hg=>⟨h0,h1.step hg (by rintro q hq h;omega),h2.agr hg (by omega) (fun b' hb'=>by have:=(hrl b' hb').2;omega)⟩)
   ⟨Agr.refl _ _,?start,by simpa [htl] using bKn t dx⟩
   (fun y a' Wp=>∃ yb,Wp.heap[yb]?=some (.cells #[.int .i64 (fy y).1,.int .i64 (fy y).2] 159 (0,0))/\W1.heap.size<yb/\a'={ tmps:=#[.slice (some ⟨b,o,none⟩) T.length ct,.slice (some ⟨gb,0,none⟩) d.length cap,undef,.pointer (some ⟨w.heap.size,0,none⟩),.pointer (some ⟨vb,0,none⟩),.slice (some ⟨b1,o1,none⟩) m (R x).2,.int .i64 (y:Int),.pointer (some ⟨yb,0,none⟩),.slice (some ⟨b,o,none⟩) T.length ct,.func (.func 127) #[] #[.pointer (some ⟨w.heap.size+1,0,none⟩)],.int .i64 (x:Int),.slice (some ⟨b1,o1,none⟩) m (R x).2,.slice (some ⟨b1,o1,none⟩) m (R x).2,.func (.func 128) #[] #[.pointer (some ⟨W.heap.size,0,none⟩)],.int .i64 (y:Int),.agg #[.int .i64 (fy y).1,.int .i64 (fy y).2],undef,undef,undef,undef,undef,undef,undef,undef,undef,undef,undef,undef,undef,undef,undef,undef,undef,undef,undef,undef,undef,undef,undef,undef,undef,undef,undef],defers:=[] })
   (fun y a' A' B' ⟨yb,h1,h2,h3⟩ hg=>⟨yb,hg.blk h1 (by omega),h2,h3⟩) ?assign2 ?body2 ?done2 ?stop2
  case start =>
   have e:(aHm T d (x+1)).set x (aKq t dx (m-([]:List Nat).length))=aHm T d (x+1):=by
    rw [List.length_nil,Nat.sub_zero,<- htl,aZr (by omega)]
    apply List.ext_getElem?
    intro u
    rw [List.getElem?_set]
    by_cases hu:x=u
    .subst hu;rw [if_pos rfl,if_pos (by omega)];exact hbk.2.symm
    .rw [if_neg hu]
   rw [e];exact hC1
  case assign2 =>
   rintro pre2 y Wp K hp2 ⟨h1,h2,h3⟩ hl2 hK
   gi_wp2
   refine hK _ _ (aBf.alloc _ _ _) ⟨h1.trans (Agr.alloc _ _ _),h2.keep ((Bel.refl Wp).alloc _),h3⟩ ⟨Wp.heap.size,aAx _ _,hl2,rfl⟩
  case done2 =>
   rintro Wp ⟨h1,h2,h3⟩;rw [aXa,Nat.sub_self] at h2 h3;have hc9:=bNi hxt hxd hcar (by rw [<- HTE.out,<- HDX.out];simpa using h3)
   rw [bE2,HTE.out,hbk.1] at h2
   gi_wp2
   refine ⟨(aBf.of_bel hb1w).trans (aBf.of_agr h1 ?_),hA.trans ?_,?_,?_⟩
   .rintro k hk ⟨b',hb',rfl⟩
    have:=hrl b' hb'
    rcases hk with (hk | hk) | (hk | hk) <;> omega
   .exact ⟨h1.os.trans hb1w.os,h1.tape.trans hb1w.tape,h1.output.trans hb1w.output,Nat.le_trans hb1w.size h1.size,fun k hk hn=>(h1.block k (Nat.lt_of_lt_of_le hk hb1w.size) hn).trans (hb1w.block k hk)⟩
   .have e:T.length-(pre++[x]).length=x:=by simp;omega
    rw [e];exact h2
   .have e:T.length-(pre++[x]).length=x:=by simp;omega
    rw [e];exact hc9
  case stop2 =>
   rintro c' pre2 Wp hp2 ⟨rfl,h1,h2⟩
   gi_wp2
   refine ⟨(aBf.of_bel hb1w).trans (aBf.of_agr h1 ?_),rfl,hA.trans ?_,h2⟩
   .rintro k hk ⟨b',hb',rfl⟩
    have:=hrl b' hb'
    rcases hk with (hk | hk) | (hk | hk) <;> omega
   .exact ⟨h1.os.trans hb1w.os,h1.tape.trans hb1w.tape,h1.output.trans hb1w.output,Nat.le_trans hb1w.size h1.size,fun k hk hn=>(h1.block k (Nat.lt_of_lt_of_le hk hb1w.size) hn).trans (hb1w.block k hk)⟩
  case body2 =>
   rintro pre2 y a' Wp hp2 ⟨h1,h2,h3⟩ ⟨yb,hYB,hyb,rfl⟩ hl2 ⟨r2,hr2⟩;have hy:=bCf hp2;have hym:y<m:=by omega
   have hyt:y<t.length:=by omega
   have hyd:y<dx.length:=by omega
   have hcut2:m-pre2.length=y+1:=by omega
   rw [hcut2] at h2 h3;have hbl:=bE1 (t:=t) (c:=dx) (by omega) hyt
   have hrow:((aHm T d (x+1)).set x (aKq t dx (y+1)))[x]?=some (aKq t dx (y+1)):=List.getElem?_set_self (by omega)
   obtain ⟨bx,hbx,hcx,hgb1,hown,hbxl,hgne⟩:=h2.row_at hrow;have hbxm:=List.mem_of_getElem? hbx;obtain ⟨hbx1,hbx2⟩:=hrl bx hbxm;obtain ⟨q,e1,_,_,hcy,hcyf⟩:=aAj hown (j:=y) (u := .int .i64 dx[y]) (by rw [List.getElem?_map,hbl.2];rfl)
   obtain rfl:bx.1=q:=by simpa using e1
   have hPUT:∀ z:Int,RowsC (Wp.setCell ⟨bx.1,y,none⟩ (.int .i64 z)) w0.heap.size (some ⟨gb,0,none⟩) cap m ((aHm T d (x+1)).set x ((aKq t dx (y+1)).set y z)) bs:=fun z=>by
    have:=h2.put hbx hrow y z;rw [List.set_set] at this;exact this
   have nrow:∀ N,w.heap.size<=N->¬ bMx bs N:=fun N hN ⟨b',hb',e⟩=>by have:=(hrl b' hb').2;omega
   obtain ⟨c1,f1,l1⟩:=aAs (h1.boxed HBC1.out (nrow _ (Nat.le_refl _)));obtain ⟨c2,f2,l2⟩:=aAs (h1.boxed HVB1.out (nrow _ (by omega)))
   have k0:Wp.cell? ⟨yb,0,none⟩=some (.int .i64 (fy y).1):=Blk.cell hYB 0 rfl;have k1:Wp.cell? ⟨yb,1,none⟩=some (.int .i64 (fy y).2):=Blk.cell hYB 1 rfl;have kl:yb<Wp.heap.size:=Blk.lt hYB;have hfy:=HFY.out y hyt;have hsm:=HS.out.at_ hxt (j:=y) (by rw [<- HTE.out];exact hyt)
   have hiv:=(aQv.1 hind).2 y hyd hyt
   have hsm2 : -4096<=t[y].1/\t[y].1<=4096/\t[y].1<=t[y].2/\t[y].2<=80000:=by
    have:=HS.out.at_ hxt (j:=y) (by rw [<- HTE.out];exact hyt)
    have e:=HTE.out;subst e;exact this
   rw [hfy] at k0 k1;clear hsm hfy e1;have HSTOP:=aA0 (fun h:dx[y]<t[y].2=>bGx hind hyt hyd h3 h);have HGO:=aA0 (fun h:¬ dx[y]<t[y].2=>bNh hyt hyd h3 h);have HBL:=aA0 hbl.1;generalize dx[y]=cy at *;generalize t[y]=ty at *;obtain ⟨lo,hi⟩:=ty;dsimp only at k0 k1 hsm2 hiv HSTOP HGO HBL;have i1:(x:Int)<(d.length:Int):=by omega
   have i2:(y:Int)<(m:Int):=by omega
   have i1':decide (x<d.length)=true:=by simpa using hxd
   have i2':decide (y<m)=true:=by simpa using hym
   have hse:∀ z:Int,aBf (orE (fun k=>k=W1.heap.size) (fun k=>k=W.heap.size∨k=b1)) Wp (Wp.setCell ⟨bx.1,y,none⟩ (.int .i64 z)):=fun z=>aBf.setCell _ _ _ (by
    have:=hb1
    rintro (h | h | h) <;> (dsimp only at h;omega))
   have hag:∀ z:Int,Agr (bMx bs) W1 (Wp.setCell ⟨bx.1,y,none⟩ (.int .i64 z)):=fun z=>h1.trans (Agr.setCell _ _ _ ⟨bx,hbxm,rfl⟩);have HPUT:=aA0 hPUT;have HSE:=aA0 hse;have HAG:=aA0 hag;have HH1:=aA0 h1;have HH2:=aA0 h2;have HBK1:=aA0 hbk.1;have hgx:bx.1≠gb:=Ne.symm hgne;clear hbl hrow hown hbx hPUT hse hag h1 h2 h3 hbk hYB hr2 hC1 hC' hcar;refine wpIn_block (wpIn_seq (wpIn_seq ?_))
   refine aA4.startIn (fun w':World=>w'.cell? ⟨w.heap.size,0,none⟩=some (.slice (some ⟨gb,0,none⟩) d.length cap)/\w'.cell? ⟨vb,0,none⟩=some (.int .i64 (x:Int))/\w'.cell? ⟨gb,x,none⟩=some (.slice (some ⟨bx.1,0,none⟩) m bx.2)/\w'.cell? ⟨bx.1,y,none⟩=some (.int .i64 cy)/\w'.cell? ⟨yb,0,none⟩=some (.int .i64 lo)/\w'.cell? ⟨yb,1,none⟩=some (.int .i64 hi)/\w.heap.size<w'.heap.size/\vb<w'.heap.size/\gb<w'.heap.size/\bx.1<w'.heap.size/\yb<w'.heap.size) 9 (by kernel_rfl) (by kernel_rfl) (by rintro ⟨_,_,h⟩;exact h) ?_
   have hHeld:(fun w':World=>w'.cell? ⟨w.heap.size,0,none⟩=some (.slice (some ⟨gb,0,none⟩) d.length cap)/\w'.cell? ⟨vb,0,none⟩=some (.int .i64 (x:Int))/\w'.cell? ⟨gb,x,none⟩=some (.slice (some ⟨bx.1,0,none⟩) m bx.2)/\w'.cell? ⟨bx.1,y,none⟩=some (.int .i64 cy)/\w'.cell? ⟨yb,0,none⟩=some (.int .i64 lo)/\w'.cell? ⟨yb,1,none⟩=some (.int .i64 hi)/\w.heap.size<w'.heap.size/\vb<w'.heap.size/\gb<w'.heap.size/\bx.1<w'.heap.size/\yb<w'.heap.size) Wp.drew:=⟨c1,c2,hcx,hcy,k0,k1,l1,l2,hgb1,hbxl,kl⟩
   by_cases hlt:cy<hi
   .have hdl:decide (cy<hi)=true:=by simpa using hlt
    (refine aA4.u (v:=?_) 0 16 rfl hHeld ?_ ?_;rotate_left 1;focus (intro w' hSw;(try dsimp only at hSw);go_simp;(try with_reducible rfl);done));(refine aA4.u (v:=?_) 1 17 rfl hHeld ?_ ?_;rotate_left 1;focus (intro w' hSw;(try dsimp only at hSw);go_simp;(try with_reducible rfl);done));(refine aA4.u (v:=?_) 2 18 rfl hHeld ?_ ?_;rotate_left 1;focus (intro w' hSw;(try dsimp only at hSw);go_simp;(try with_reducible rfl);done));(refine aA4.u (v:=?_) 3 19 rfl hHeld ?_ ?_;rotate_left 1;focus (intro w' hSw;(try dsimp only at hSw);go_simp;(try with_reducible rfl);done));(refine aA4.u (v:=?_) 4 20 rfl hHeld ?_ ?_;rotate_left 1;focus (intro w' hSw;(try dsimp only at hSw);go_simp;(try with_reducible rfl);done));(refine aA4.u (v:=?_) 5 21 rfl hHeld ?_ ?_;rotate_left 1;focus (intro w' hSw;(try dsimp only at hSw);go_simp;(try with_reducible rfl);done));(refine aA4.u (v:=?_) 6 22 rfl hHeld ?_ ?_;rotate_left 1;focus (intro w' hSw;(try dsimp only at hSw);go_simp;(try with_reducible rfl);done));(refine aA4.u (v:=?_) 7 23 rfl hHeld ?_ ?_;rotate_left 1;focus (intro w' hSw;(try dsimp only at hSw);go_simp;(try with_reducible rfl);done));(refine aA4.u (v:=?_) 8 24 rfl hHeld ?_ ?_;rotate_left 1;focus (intro w' hSw;(try dsimp only at hSw);go_simp;(try with_reducible rfl);done))
    refine aA4.one (i:=9) (by kernel_rfl) rfl (fun K hK=>?_)
    go_simp
    refine hK.out _ _ (fun h=>absurd rfl h) ?_
    clear hK K hHeld;refine aA4.done (by kernel_rfl) ?_ _
    (try simp only [Act.put,List.setIfInBounds_toArray,List.set_cons_zero,List.set_cons_succ])
    change Code.wpIn _ _ _ _ _ _ _
    gi_wp2
    have hstop:=HSTOP.out hlt;have e1:aFo T[x] d[x]=((aKq t dx (y+1)).set y (cy+1),false):=by rw [<- hstop,HTE.out,HDX.out]
    have e2:=bGz HIN.out hxt hxd HCAR.out (by rw [e1])
    rw [e1] at e2;refine ⟨?_,rfl,(HAG.out (cy+1)).drew,?_⟩
    .have:=HSE.out (cy+1)
     rw [hz1] at this;exact this.drew
    .rw [e2]
     exact (HPUT.out (cy+1)).keep (Bel.refl _).drew
   .have hdl:decide (cy<hi)=false:=by simpa using hlt
    (refine aA4.u (v:=?_) 0 16 rfl hHeld ?_ ?_;rotate_left 1;focus (intro w' hSw;(try dsimp only at hSw);go_simp;(try with_reducible rfl);done));(refine aA4.u (v:=?_) 1 17 rfl hHeld ?_ ?_;rotate_left 1;focus (intro w' hSw;(try dsimp only at hSw);go_simp;(try with_reducible rfl);done));(refine aA4.u (v:=?_) 2 18 rfl hHeld ?_ ?_;rotate_left 1;focus (intro w' hSw;(try dsimp only at hSw);go_simp;(try with_reducible rfl);done));(refine aA4.u (v:=?_) 3 19 rfl hHeld ?_ ?_;rotate_left 1;focus (intro w' hSw;(try dsimp only at hSw);go_simp;(try with_reducible rfl);done));(refine aA4.u (v:=?_) 4 20 rfl hHeld ?_ ?_;rotate_left 1;focus (intro w' hSw;(try dsimp only at hSw);go_simp;(try with_reducible rfl);done));(refine aA4.u (v:=?_) 5 21 rfl hHeld ?_ ?_;rotate_left 1;focus (intro w' hSw;(try dsimp only at hSw);go_simp;(try with_reducible rfl);done));(refine aA4.u (v:=?_) 6 22 rfl hHeld ?_ ?_;rotate_left 1;focus (intro w' hSw;(try dsimp only at hSw);go_simp;(try with_reducible rfl);done));(refine aA4.u (v:=?_) 7 23 rfl hHeld ?_ ?_;rotate_left 1;focus (intro w' hSw;(try dsimp only at hSw);go_simp;(try with_reducible rfl);done));(refine aA4.u (v:=?_) 8 24 rfl hHeld ?_ ?_;rotate_left 1;focus (intro w' hSw;(try dsimp only at hSw);go_simp;(try with_reducible rfl);done))
    refine aA4.one (i:=9) (by kernel_rfl) rfl (fun K hK=>?_)
    go_simp
    refine hK.out _ _ (fun h=>absurd rfl h) ?_
    clear hK K hHeld;refine aA4.done (by kernel_rfl) ?_ _
    (try simp only [Act.put,List.setIfInBounds_toArray,List.set_cons_zero,List.set_cons_succ])
    change Code.wpIn _ _ _ _ _ _ _
    gi_wp2
    rename_i QQ
    subst QQ;refine aA4.startIn (fun w':World=>w'.cell? ⟨w.heap.size,0,none⟩=some (.slice (some ⟨gb,0,none⟩) d.length cap)/\w'.cell? ⟨vb,0,none⟩=some (.int .i64 (x:Int))/\w'.cell? ⟨gb,x,none⟩=some (.slice (some ⟨bx.1,0,none⟩) m bx.2)/\w'.cell? ⟨bx.1,y,none⟩=some (.int .i64 cy)/\w'.cell? ⟨yb,0,none⟩=some (.int .i64 lo)/\w'.cell? ⟨yb,1,none⟩=some (.int .i64 hi)/\w.heap.size<w'.heap.size/\vb<w'.heap.size/\gb<w'.heap.size/\bx.1<w'.heap.size/\yb<w'.heap.size) 8 (by kernel_rfl) (by kernel_rfl) (by rintro ⟨_,_,h⟩;exact h) ?_
    have hHeld:(fun w':World=>w'.cell? ⟨w.heap.size,0,none⟩=some (.slice (some ⟨gb,0,none⟩) d.length cap)/\w'.cell? ⟨vb,0,none⟩=some (.int .i64 (x:Int))/\w'.cell? ⟨gb,x,none⟩=some (.slice (some ⟨bx.1,0,none⟩) m bx.2)/\w'.cell? ⟨bx.1,y,none⟩=some (.int .i64 cy)/\w'.cell? ⟨yb,0,none⟩=some (.int .i64 lo)/\w'.cell? ⟨yb,1,none⟩=some (.int .i64 hi)/\w.heap.size<w'.heap.size/\vb<w'.heap.size/\gb<w'.heap.size/\bx.1<w'.heap.size/\yb<w'.heap.size) Wp.drew.drew:=⟨c1,c2,hcx,hcy,k0,k1,l1,l2,hgb1,hbxl,kl⟩
    (refine aA4.u (v:=?_) 0 35 rfl hHeld ?_ ?_;rotate_left 1;focus (intro w' hSw;(try dsimp only at hSw);go_simp;(try with_reducible rfl);done));(refine aA4.u (v:=?_) 1 36 rfl hHeld ?_ ?_;rotate_left 1;focus (intro w' hSw;(try dsimp only at hSw);go_simp;(try with_reducible rfl);done));(refine aA4.u (v:=?_) 2 37 rfl hHeld ?_ ?_;rotate_left 1;focus (intro w' hSw;(try dsimp only at hSw);go_simp;(try with_reducible rfl);done));(refine aA4.u (v:=?_) 3 38 rfl hHeld ?_ ?_;rotate_left 1;focus (intro w' hSw;(try dsimp only at hSw);go_simp;(try with_reducible rfl);done));(refine aA4.u (v:=?_) 4 39 rfl hHeld ?_ ?_;rotate_left 1;focus (intro w' hSw;(try dsimp only at hSw);go_simp;(try with_reducible rfl);done));(refine aA4.u (v:=?_) 5 40 rfl hHeld ?_ ?_;rotate_left 1;focus (intro w' hSw;(try dsimp only at hSw);go_simp;(try with_reducible rfl);done));(refine aA4.u (v:=?_) 6 41 rfl hHeld ?_ ?_;rotate_left 1;focus (intro w' hSw;(try dsimp only at hSw);go_simp;(try with_reducible rfl);done));(refine aA4.u (v:=?_) 7 42 rfl hHeld ?_ ?_;rotate_left 1;focus (intro w' hSw;(try dsimp only at hSw);go_simp;(try with_reducible rfl);done))
    (refine aA4.one (i:=8) (by kernel_rfl) rfl (fun K hK=>?_));go_simp;refine hK.out _ _ (fun h=>absurd rfl h) ?_;clear hK K;refine aA4.done (by kernel_rfl) ?_ _;(try simp only [Act.put,List.setIfInBounds_toArray,List.set_cons_zero,List.set_cons_succ])
    have e1:m-(pre2++[y]).length=y:=by simp;omega
    refine ⟨?_,(HAG.out lo).drew.drew,?_,?_⟩
    .exact (HSE.out lo).drew.drew
    .rw [e1,<- HBL.out]
     exact (HPUT.out lo).keep (Bel.refl _).drew.drew
    .rw [e1];exact HGO.out hlt
end Go.Proofs.YtmoebklkkjbigaaGreatDoor

