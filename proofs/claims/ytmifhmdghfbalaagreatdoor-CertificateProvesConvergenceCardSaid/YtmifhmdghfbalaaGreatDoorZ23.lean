/- Merged. -/
import Derived.Test.YtmifhmdghfbalaaGreatDoorZ22
set_option linter.unusedSimpArgs false
set_option linter.unnecessarySimpa false
set_option linter.unusedVariables false
set_option maxRecDepth 100000

namespace Go.Proofs.YtmifhmdghfbalaaGreatDoor
open Go.RowKit
def aPn (p:Prg) (g:Graph) (c:aA8) (S v:Nat):aA8:=(List.range c.length).map fun u=>if u<v/\S.testBit u=true then aLv p g c u else c.getD u []
theorem aKw (p:Prg) (g:Graph) (c:aA8) (S v:Nat):(aPn p g c S v).length=c.length:=by simp [aPn]
theorem aNq (p:Prg) (g:Graph) (c:aA8) (S v:Nat) (i:Nat):(aPn p g c S v)[i]?=if i<c.length then some (if i<v/\S.testBit i=true then aLv p g c i else c.getD i []) else none:=by
 unfold aPn;rw [List.getElem?_map]
 by_cases h:i<c.length
 .rw [List.getElem?_range h,if_pos h];rfl
 .rw [if_neg h,List.getElem?_eq_none (by simp;omega)];rfl
theorem bDz (p:Prg) (g:Graph) (c:aA8) (S:Nat):aPn p g c S 0=c:=by
 apply List.ext_getElem?
 intro i
 rw [aNq]
 by_cases h:i<c.length
 .rw [if_pos h,if_neg (by omega),aA7 h,List.getElem?_eq_getElem h]
 .rw [if_neg h,List.getElem?_eq_none (by omega)]
theorem bDy (p:Prg) (g:Graph) (c:aA8) (S:Nat):aPn p g c S c.length=aEy p g c S:=by
 unfold aPn aEy;refine List.map_congr_left fun u hu=>?_
 rw [List.mem_range] at hu;cases hb:S.testBit u with
 | true=>rw [if_pos ⟨hu,rfl⟩,if_pos rfl]
 | false=>rw [if_neg (fun h=>by cases h.2),if_neg (by decide)]
theorem bGs {p:Prg} {g:Graph} {c:aA8} {S v:Nat} (hb:S.testBit v=true):(aPn p g c S v).set v (aLv p g c v)=aPn p g c S (v+1):=by
 apply List.ext_getElem?
 intro i
 rw [List.getElem?_set,aNq,aNq,aKw]
 by_cases he:v=i
 .subst he
  rw [if_pos rfl]
  by_cases h:v<c.length
  .rw [if_pos h,if_pos h,if_pos ⟨by omega,hb⟩]
  .rw [if_neg h,if_neg h]
 .rw [if_neg he]
  have e:(i<v/\S.testBit i=true)↔(i<v+1/\S.testBit i=true):=by
   constructor
   .rintro ⟨h,h'⟩;exact ⟨by omega,h'⟩
   .rintro ⟨h,h'⟩;exact ⟨by omega,h'⟩
  simp only [e]
theorem bJl {p:Prg} {g:Graph} {c:aA8} {S v:Nat} (hb:S.testBit v=false):aPn p g c S v=aPn p g c S (v+1):=by
 apply List.ext_getElem?
 intro i
 rw [aNq,aNq]
 have e:(i<v/\S.testBit i=true)↔(i<v+1/\S.testBit i=true):=by
  constructor
  .rintro ⟨h,h'⟩;exact ⟨by omega,h'⟩
  .rintro ⟨h,h'⟩
   refine ⟨?_,h'⟩
   have:i≠v:=by rintro rfl;rw [hb] at h';cases h'
   omega
 simp only [e]
def bKg (r:aA8 × Int) (w:World) (e:Ending) (w':World):Prop:=∃ A c,e = .returned (.tuple #[.slice A r.1.length c,.int .i64 r.2])/\aDf w' (.slice A r.1.length c) r.1/\Bel w w'
theorem aW9.nil (w:World) (B:Nat):aW9 w B none 0 []:=⟨aAh.nil,Nat.le_refl _,by unfold maxLen;simp,fun b o e=>by cases e⟩
theorem aDf.nil (w:World):aDf w (.slice none 0 0) []:=⟨none,0,rfl,aAh.nil,Nat.le_refl _,by unfold maxLen;omega⟩
end Go.Proofs.YtmifhmdghfbalaaGreatDoor

