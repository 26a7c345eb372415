/- Merged. -/
import Derived.Test.YtdcjnhoabbdanaaGreatDoorZ36
import Derived.Test.YtdcjnhoabbdanaaGreatDoorZ37
set_option linter.unusedSimpArgs false
set_option linter.unnecessarySimpa false
set_option linter.unusedVariables false
set_option maxRecDepth 100000
open Go.Proofs.Tryz

namespace Go.Proofs.YtdcjnhoabbdanaaGreatDoor
open Go.RowKit
theorem aWk {p:Prg} {g:Graph} {kind:Int} {c:aA7} {n:Int} (hm:aCv p g c=0) (hk:aFl kind=true) (hn:n<=4096):aJu p g kind c n=0:=by
 unfold aJu;rw [if_neg (by simpa using hm),if_neg (by rw [hk];decide),if_neg (by omega)]
def RetT (T:Trc) (w:World) (e:Ending) (w':World):Prop:=∃ A1 k1 A2 k2 A3 k3,
 e = .returned (.tuple #[.agg #[.slice A1 T.chosen.length k1,.slice A2 T.enabled.length k2,.slice A3 T.last.length k3,.int .i64 T.count.steps,.int .i64 T.count.moves,.int .i64 T.count.rounds,.int .i64 T.count.begun,.int .u32 (T.count.pending:Int)],.int .i64 0]) /\
  (∀ W,Agr (fun k=>k<w.heap.size) w' W->aAd W A1 T.chosen.length T.chosen)/\T.chosen.length<=k1/\k1<=maxLen/\(∀ W,Agr (fun k=>k<w.heap.size) w' W->aAd W A2 T.enabled.length T.enabled)/\T.enabled.length<=k2/\k2<=maxLen/\(∀ W,Agr (fun k=>k<w.heap.size) w' W->aAy W (.slice A3 T.last.length k3) T.last)/\Bel w w'
theorem aEz.some {b:Int} {r:Option Trc} {T:Trc} {w w':World} {e:Ending} (h:aEz b r w e w') (hb:b=0) (hr:r=some T):RetT T w e w':=by
 obtain ⟨vt,rfl,hV,hb'⟩:=h;rw [if_pos hb,hr] at hV ⊢;have hW:=fun W (k:Agr (fun k=>k<w.heap.size) w' W)=>(show aB5 W vt T from hV W k)
 obtain ⟨A1,k1,A2,k2,A3,k3,rfl,q1,q2,q3,q4,q5,q6,q7⟩:=hW w' (Agr.refl _ _)
 have hp:∀ W,Agr (fun k=>k<w.heap.size) w' W->aAd W A1 T.chosen.length T.chosen/\aAd W A2 T.enabled.length T.enabled/\aAy W (.slice A3 T.last.length k3) T.last:=fun W k=>by
  obtain ⟨B1,j1,B2,j2,B3,j3,e,a1,_,_,a4,_,_,a7⟩:=hW W k;obtain ⟨⟨rfl,rfl⟩,⟨rfl,rfl⟩,rfl,rfl⟩:(A1=B1/\k1=j1)/\(A2=B2/\k2=j2)/\A3=B3/\k3=j3:=by simpa using e
  exact ⟨a1,a4,a7⟩
 exact ⟨A1,k1,A2,k2,A3,k3,rfl,fun W k=>(hp W k).1,q2,q3,fun W k=>(hp W k).2.1,q5,q6,fun W k=>(hp W k).2.2,hb'⟩
theorem Bel.trace {w w3:World} {b:Nat} (h:Bel w w3) (hb:w.heap.size<=b) {v0 v1 v2 v3 v4 v5 v6 v7:Value}:Bel w ((((((((w3.setCell ⟨b,0,none⟩ v0).setCell ⟨b,1,none⟩ v1).setCell ⟨b,2,none⟩ v2).setCell ⟨b,3,none⟩ v3).setCell ⟨b,4,none⟩ v4).setCell ⟨b,5,none⟩ v5).setCell ⟨b,6,none⟩ v6).setCell ⟨b,7,none⟩ v7) :=
 (((((((h.setCell hb _).setCell hb _).setCell hb _).setCell hb _).setCell hb _).setCell hb _).setCell hb _).setCell hb _
theorem Agr.trace {E:Nat->Prop} {w3:World} {b:Nat} (hb:E b) {v0 v1 v2 v3 v4 v5 v6 v7:Value}:Agr E w3 ((((((((w3.setCell ⟨b,0,none⟩ v0).setCell ⟨b,1,none⟩ v1).setCell ⟨b,2,none⟩ v2).setCell ⟨b,3,none⟩ v3).setCell ⟨b,4,none⟩ v4).setCell ⟨b,5,none⟩ v5).setCell ⟨b,6,none⟩ v6).setCell ⟨b,7,none⟩ v7) :=
 (((((((Agr.setCell _ ⟨b,0,none⟩ _ hb).trans (Agr.setCell _ ⟨b,1,none⟩ _ hb)).trans (Agr.setCell _ ⟨b,2,none⟩ _ hb)).trans (Agr.setCell _ ⟨b,3,none⟩ _ hb)).trans (Agr.setCell _ ⟨b,4,none⟩ _ hb)).trans (Agr.setCell _ ⟨b,5,none⟩ _ hb)).trans (Agr.setCell _ ⟨b,6,none⟩ _ hb)).trans (Agr.setCell _ ⟨b,7,none⟩ _ hb)
theorem Blk.trace {w3:World} {b:Nat} {t:TypeId} {u0 u1 u2 u3 u4 u5 u6 u7:Value} (h:Blk w3 b #[u0,u1,u2,u3,u4,u5,u6,u7] t) {v0 v1 v2 v3 v4 v5 v6 v7:Value}:Blk ((((((((w3.setCell ⟨b,0,none⟩ v0).setCell ⟨b,1,none⟩ v1).setCell ⟨b,2,none⟩ v2).setCell ⟨b,3,none⟩ v3).setCell ⟨b,4,none⟩ v4).setCell ⟨b,5,none⟩ v5).setCell ⟨b,6,none⟩ v6).setCell ⟨b,7,none⟩ v7) b #[v0,v1,v2,v3,v4,v5,v6,v7] t:=by
 have q:=((((((((h.set 0 v0).set 1 v1).set 2 v2).set 3 v3).set 4 v4).set 5 v5).set 6 v6).set 7 v7);simp only [List.setIfInBounds_toArray,List.set_cons_zero,List.set_cons_succ] at q
 exact q
theorem aQy (v1:Value) (p:Prg) (v2:Value) (g:Graph) (v3:Value) (c:aA7) (kind:Int) (Al:Option Addr) (cl:Nat) (l:List Nat) (w:World) (h:aEm w v1 p) (h2:aAn w v2 g) (h3:aAy w v3 c) (hL:aAw p=true) (hG:aB3 g=true) (hC:aBl c=true) (hM:aAd w Al l.length l) (hT:aDg w) (hl32:∀ y∈l,y<4294967296) (hlen:l.length<=120) (hm:aCv p g c=0) (hk:aFl kind=true) (T:Trc) (hP:FollowP p g kind c l T) :
  Calls prog 18 #[v1,v2,.int .i64 kind,v3,.slice Al l.length cl] w (RetT T w) :=
 (aHa v1 p v2 g v3 c kind Al cl l w h h2 h3 hL hG hC hM hT hl32 hlen).mono fun _ _ q=>q.some (aWk hm hk (by omega)) hP.res
def RetW (vs:List Trc) (w:World) (e:Ending) (w':World):Prop:=∃ AX cX AY cY,e = .returned (.tuple #[.slice AX vs.length cX,.slice AY vs.length cY,.int .i64 0]) /\
 (∀ k t,vs[k]?=some t->∃ bX oX A c,AX=some ⟨bX,oX,none⟩/\(∀ W,Bel w' W->bX<W.heap.size/\W.cell? ⟨bX,oX+k,none⟩=some (.slice A t.last.length c)/\aAy W (.slice A t.last.length c) t.last)) /\
 (∀ k t,vs[k]?=some t->∃ bY oY,AY=some ⟨bY,oY,none⟩/\(∀ W,Bel w' W->bY<W.heap.size/\∀ i v,(aC9 t.count)[i]?=some v->W.cell? ⟨bY,oY+k*5+i,none⟩=some v))/\Bel w w'
theorem aWq (s:List (Value × Trc)):∀ (k:Nat) (x:Value × Trc),s[k]?=some x->∀ i,i<5->(s.flatMap aIw)[k*5+i]?=(aC9 x.2.count)[i]?:=by
 induction s with
 | nil=>intro k x h;simp at h
 | cons y s ih =>
  intro k x h i hi
  rw [List.flatMap_cons];have hl:(aIw y).length=5:=rfl;cases k with
  | zero =>
   obtain rfl:y=x:=by simpa using h
   rw [Nat.zero_mul,Nat.zero_add,List.getElem?_append_left (by omega)]
   exact Array.getElem?_toList
  | succ k =>
   rw [List.getElem?_append_right (by rw [hl];omega),hl,<- ih k x (by simpa using h) i hi]
   congr 1;omega
theorem aTp (v1:Value) (p:Prg) (v2:Value) (g:Graph) (v3:Value) (c:aA7) (kind:Int) (Al:Option Addr) (cl:Nat) (l:List Nat) (w:World) (h:aEm w v1 p) (h2:aAn w v2 g) (h3:aAy w v3 c) (hL:aAw p=true) (hG:aB3 g=true) (hC:aBl c=true) (hM:aAd w Al l.length l) (hT:aDg w) (hl32:∀ y∈l,y<4294967296) (hlen:l.length<=120) (hm:aCv p g c=0) (hk:aFl kind=true) (T:Trc) (hP:FollowP p g kind c l T) :
  Calls prog 24 #[v1,v2,.int .i64 kind,v3,.slice Al l.length cl] w (RetW (aBw p g kind (aA3 p g c) l) w):=by
 refine (aLp v1 p v2 g v3 c kind Al cl l w h h2 h3 hL hG hC hM hT hl32 hlen).mono ?_
 rintro e w' ⟨hb,_,_,q⟩;obtain ⟨bx,by',M,C,s,AX,cX,AY,cY,hs,hI,hv,rfl⟩:=q (aWk hm hk (by omega)) T hP.res
 have hvs:s.map Prod.snd=aBw p g kind (aA3 p g c) l:=hv.trans hP.vis;have hlen:s.length=(aBw p g kind (aA3 p g c) l).length:=by rw [<- hvs,List.length_map]
 refine ⟨AX,cX,AY,cY,by rw [hlen],fun k t hk=>?_,fun k t hk=>?_,hb⟩
 .rw [<- hvs,List.getElem?_map] at hk
  cases hx:s[k]? with
  | none=>rw [hx] at hk;cases hk
  | some x =>
   rw [hx] at hk;obtain rfl:x.2=t:=by simpa using hk
   obtain ⟨v,r1,r2⟩:=hI.rows k x hx;obtain ⟨g0,e1,_,e3,e4,_⟩:=aCn hI.row1 r1;obtain ⟨A,c0,rfl,_,_,_⟩:=r2 w' (Nat.le_refl _) fun _ _=>rfl;exact ⟨g0,0,A,c0,e1,fun W hW=>⟨Nat.lt_of_lt_of_le e3 hW.size,by rw [Nat.zero_add];exact (hW.cell e3).trans e4,r2 W hW.size fun j hj=>hW.block j (hI.dom j (hI.in1 j (.inr (.inr (.inr (.inr hj))))))⟩⟩
 .rw [<- hvs,List.getElem?_map] at hk
  cases hx:s[k]? with
  | none=>rw [hx] at hk;cases hk
  | some x =>
   rw [hx] at hk;obtain rfl:x.2=t:=by simpa using hk
   have hks:k<s.length:=(List.getElem?_eq_some_iff.1 hx).1;have hat:=fun i (hi:i<5)=>aWq s k x hx i hi;obtain ⟨g0,e1,_,e3,_,_⟩:=aCn hI.row2 (j:=k*5+0) (u := .int .i64 x.2.count.steps) ((hat 0 (by decide)).trans rfl)
   refine ⟨g0,0,e1,fun W hW=>⟨Nat.lt_of_lt_of_le e3 hW.size,fun i v hv=>?_⟩⟩
   have hi:i<5:=by
    rcases Nat.lt_or_ge i 5 with h | h
    .exact h
    .rw [Array.getElem?_eq_none (by exact h)] at hv;cases hv
   obtain ⟨g1,f1,_,f3,f4,_⟩:=aCn hI.row2 ((hat i hi).trans hv);obtain rfl:g0=g1:=by rw [e1] at f1;injection f1 with f1;injection f1
   rw [Nat.zero_add];exact (hW.cell e3).trans f4
end Go.Proofs.YtdcjnhoabbdanaaGreatDoor

