/- Merged. -/
import Derived.Test.YtdcjnhoabbdanaaGreatDoorZ36
import Derived.Test.YtdcjnhoabbdanaaGreatDoorZ35
set_option linter.unusedSimpArgs false
set_option linter.unnecessarySimpa false
set_option linter.unusedVariables false
set_option maxRecDepth 100000

namespace Go.Proofs.YtdcjnhoabbdanaaGreatDoor
open Go.RowKit
theorem aXd {p:Prg} {g:Graph} {kind:Int} {c:aA6} {n:Int} (hm:aD1 p g c=0) (hk:aJp kind=true) (hn:n<=4096):aI0 p g kind c n=0:=by
 unfold aI0;rw [if_neg (by simpa using hm),if_neg (by rw [hk];decide),if_neg (by omega)]
def RetT (T:Trc) (w:World) (e:Ending) (w':World):Prop:=∃ A1 k1 A2 k2 A3 k3,
 e = .returned (.tuple #[.agg #[.slice A1 T.chosen.length k1,.slice A2 T.enabled.length k2,.slice A3 T.last.length k3,.int .i64 T.count.steps,.int .i64 T.count.moves,.int .i64 T.count.rounds,.int .i64 T.count.begun,.int .u32 (T.count.pending:Int)],.int .i64 0]) /\
  (∀ W,Agr (fun k=>k<w.heap.size) w' W->aAa W A1 T.chosen.length T.chosen)/\T.chosen.length<=k1/\k1<=maxLen/\(∀ W,Agr (fun k=>k<w.heap.size) w' W->aAa W A2 T.enabled.length T.enabled)/\T.enabled.length<=k2/\k2<=maxLen/\(∀ W,Agr (fun k=>k<w.heap.size) w' W->aAw W (.slice A3 T.last.length k3) T.last)/\Bel w w'
theorem aH2.some {b:Int} {r:Option Trc} {T:Trc} {w w':World} {e:Ending} (h:aH2 b r w e w') (hb:b=0) (hr:r=some T):RetT T w e w':=by
 obtain ⟨vt,rfl,hV,hb'⟩:=h;rw [if_pos hb,hr] at hV ⊢;have hW:=fun W (k:Agr (fun k=>k<w.heap.size) w' W)=>(show aBn W vt T from hV W k)
 obtain ⟨A1,k1,A2,k2,A3,k3,rfl,q1,q2,q3,q4,q5,q6,q7⟩:=hW w' (Agr.refl _ _)
 have hp:∀ W,Agr (fun k=>k<w.heap.size) w' W->aAa W A1 T.chosen.length T.chosen/\aAa W A2 T.enabled.length T.enabled/\aAw W (.slice A3 T.last.length k3) T.last:=fun W k=>by
  obtain ⟨B1,j1,B2,j2,B3,j3,e,a1,_,_,a4,_,_,a7⟩:=hW W k;obtain ⟨⟨rfl,rfl⟩,⟨rfl,rfl⟩,rfl,rfl⟩:(A1=B1/\k1=j1)/\(A2=B2/\k2=j2)/\A3=B3/\k3=j3:=by simpa using e
  exact ⟨a1,a4,a7⟩
 exact ⟨A1,k1,A2,k2,A3,k3,rfl,fun W k=>(hp W k).1,q2,q3,fun W k=>(hp W k).2.1,q5,q6,fun W k=>(hp W k).2.2,hb'⟩
theorem Bel.trace {w w3:World} {b:Nat} (h:Bel w w3) (hb:w.heap.size<=b) {v0 v1 v2 v3 v4 v5 v6 v7:Value}:Bel w ((((((((w3.setCell ⟨b,0,none⟩ v0).setCell ⟨b,1,none⟩ v1).setCell ⟨b,2,none⟩ v2).setCell ⟨b,3,none⟩ v3).setCell ⟨b,4,none⟩ v4).setCell ⟨b,5,none⟩ v5).setCell ⟨b,6,none⟩ v6).setCell ⟨b,7,none⟩ v7) :=
 (((((((h.setCell hb _).setCell hb _).setCell hb _).setCell hb _).setCell hb _).setCell hb _).setCell hb _).setCell hb _
theorem Agr.trace {E:Nat->Prop} {w3:World} {b:Nat} (hb:E b) {v0 v1 v2 v3 v4 v5 v6 v7:Value}:Agr E w3 ((((((((w3.setCell ⟨b,0,none⟩ v0).setCell ⟨b,1,none⟩ v1).setCell ⟨b,2,none⟩ v2).setCell ⟨b,3,none⟩ v3).setCell ⟨b,4,none⟩ v4).setCell ⟨b,5,none⟩ v5).setCell ⟨b,6,none⟩ v6).setCell ⟨b,7,none⟩ v7) :=
 (((((((Agr.setCell _ ⟨b,0,none⟩ _ hb).trans (Agr.setCell _ ⟨b,1,none⟩ _ hb)).trans (Agr.setCell _ ⟨b,2,none⟩ _ hb)).trans (Agr.setCell _ ⟨b,3,none⟩ _ hb)).trans (Agr.setCell _ ⟨b,4,none⟩ _ hb)).trans (Agr.setCell _ ⟨b,5,none⟩ _ hb)).trans (Agr.setCell _ ⟨b,6,none⟩ _ hb)).trans (Agr.setCell _ ⟨b,7,none⟩ _ hb)
theorem Blk.trace {w3:World} {b:Nat} {t:TypeId} {u0 u1 u2 u3 u4 u5 u6 u7:Value} (h:Blk w3 b #[u0,u1,u2,u3,u4,u5,u6,u7] t) {v0 v1 v2 v3 v4 v5 v6 v7:Value}:Blk ((((((((w3.setCell ⟨b,0,none⟩ v0).setCell ⟨b,1,none⟩ v1).setCell ⟨b,2,none⟩ v2).setCell ⟨b,3,none⟩ v3).setCell ⟨b,4,none⟩ v4).setCell ⟨b,5,none⟩ v5).setCell ⟨b,6,none⟩ v6).setCell ⟨b,7,none⟩ v7) b #[v0,v1,v2,v3,v4,v5,v6,v7] t:=by
 have q:=((((((((h.set 0 v0).set 1 v1).set 2 v2).set 3 v3).set 4 v4).set 5 v5).set 6 v6).set 7 v7);simp only [List.setIfInBounds_toArray,List.set_cons_zero,List.set_cons_succ] at q
 exact q
end Go.Proofs.YtdcjnhoabbdanaaGreatDoor

