/- Merged. -/
import Derived.Test.YtmifhmdghfbalaaGreatDoorZ23
set_option linter.unusedSimpArgs false
set_option linter.unnecessarySimpa false
set_option linter.unusedVariables false
set_option maxRecDepth 100000
set_option maxHeartbeats 4000000
open Go.Proofs.Tryz

namespace Go.Proofs.YtmifhmdghfbalaaGreatDoor
open Go.RowKit
def exP:Prg:=⟨⟨#[97]⟩,[⟨⟨#[98]⟩,2,0,0,0,0⟩],[⟨⟨#[114]⟩,[⟨5,0⟩],[⟨0,[⟨3,0⟩]⟩]⟩]⟩
def exG:Graph:=⟨[0,1],[[⟨1,1⟩],[⟨0,1⟩]]⟩
theorem aAh.one {α:Type} {size:Nat} {E:World->Nat->Nat->α->Prop} {w:World} {b:Nat} {x:α} (hb:b<w.heap.size) (h:E w b 0 x):aAh size E w (some ⟨b,0,none⟩) 1 [x] :=
 ⟨rfl,fun i y hy=>by
  match i,hy with
  | 0,hy =>
   obtain rfl:x=y:=by simpa using hy
   exact ⟨b,0,rfl,hb,by rw [Nat.zero_mul];exact h⟩
  | i+1,hy=>simp at hy⟩
theorem aAh.two {α:Type} {size:Nat} {E:World->Nat->Nat->α->Prop} {w:World} {b:Nat} {x y:α} (hb:b<w.heap.size) (h:E w b 0 x) (h2:E w b size y):aAh size E w (some ⟨b,0,none⟩) 2 [x,y] :=
 ⟨rfl,fun i z hz=>by
  match i,hz with
  | 0,hz =>
   obtain rfl:x=z:=by simpa using hz
   exact ⟨b,0,rfl,hb,by rw [Nat.zero_mul];exact h⟩
  | 1,hz =>
   obtain rfl:y=z:=by simpa using hz
   exact ⟨b,0,rfl,hb,by rw [Nat.one_mul,Nat.zero_add];exact h2⟩
  | i+2,hz=>simp at hz⟩
def RetEx (w:World) (e:Ending) (w':World):Prop:=∃ vp vg,e = .returned (.tuple #[vp,vg])/\aE0 w' vp exP/\aAl w' vg exG/\Bel w w'
theorem aV1 (w:World):Calls prog 81 #[] w (RetEx w):=by
 go_enter func81,ntmps81;go_wp2;refine bodyPost_ret (v := .tuple #[.agg #[.string ⟨#[97]⟩,.slice (some ⟨w.heap.size+1+1+1,0,none⟩) 1 1,.slice (some ⟨w.heap.size+1+1+1+1+1+1,0,none⟩) 1 1],.agg #[.slice (some ⟨w.heap.size+1+1+1+1+1+1+1+1,0,none⟩) 2 2,.slice (some ⟨w.heap.size+1+1+1+1+1+1+1+1+1+1+1,0,none⟩) 2 2]]) (by simp [results,Tryz.results81,go_sem]) rfl ⟨_,_,rfl,?_,?_,?_⟩
 .refine ⟨_,_,_,_,rfl,aAh.one (by simp) ⟨?_,?_,?_,?_,?_,?_⟩,by decide,by decide,aAh.one (by simp) ⟨?_,⟨_,1,?_,aAh.one (b:=w.heap.size+1+1) (by simp) ⟨?_,?_⟩,by decide,by decide⟩,⟨_,1,?_,aAh.one (b:=w.heap.size+1+1+1+1+1) (by simp) ⟨?_,_,1,?_,aAh.one (b:=w.heap.size+1+1+1+1) (by simp) ⟨?_,?_⟩,by decide,by decide⟩,by decide,by decide⟩⟩,by decide,by decide⟩
  all_goals ((try unfold aKc);go_simp)
 .refine ⟨_,_,_,_,rfl,aAh.two (by simp) ?_ ?_,by decide,by decide,aAh.two (by simp) ⟨_,1,?_,aAh.one (b:=w.heap.size+1+1+1+1+1+1+1+1+1) (by simp) ⟨?_,?_⟩,by decide,by decide⟩ ⟨_,1,?_,aAh.one (b:=w.heap.size+1+1+1+1+1+1+1+1+1+1) (by simp) ⟨?_,?_⟩,by decide,by decide⟩,by decide,by decide⟩
  all_goals ((try unfold aKc);go_simp)
 .repeat' refine Bel.alloc ?_ _
  exact Bel.refl w
end Go.Proofs.YtmifhmdghfbalaaGreatDoor

