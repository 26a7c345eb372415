/- Merged. -/
import Derived.Test.YtmoebklkkjbigaaGreatDoorZ44
import Derived.Test.YtmoebklkkjbigaaGreatDoorZ45
set_option linter.unusedSimpArgs false
set_option linter.unnecessarySimpa false
set_option linter.unusedVariables false
set_option maxRecDepth 100000

namespace Go.Proofs.YtmoebklkkjbigaaGreatDoor
theorem aX4 {g:Graph} (hg:GOK g) (h4:g.ports.length<=4):∀ k,k<=g.ports.length->aPg g k<=4*k
 | 0,_=>by simp [aPg]
 | k+1,hk=>by
  have hv:k<g.ports.length:=by omega
  rw [aMb hv];have h1:=aX4 hg h4 k (by omega)
  have h2:=aCt hv (hg.links k hv);omega
theorem aVf {g:Graph} (hg:GOK g) (h5:g.ports.length<=5) {c:aA2} (hm:aC0 pairsP g c=0) {T:Nat} (hT:T∈(aAq g 1 (aAe pairsP g c)).1):aRo T+bFs (aEr g) (aNa g (aAd pairsP g c T)) g.ports.length<=bFs (aEr g) (aNa g c) g.ports.length:=by
 obtain ⟨a1,a2,a3,_⟩:=aI3 hm h5 (.inl rfl) hT
 have hmap:T∈(aAg (aAe pairsP g c)).map (fun v=>2 ^ v):=by
  unfold aAq at hT
  have h0:aAe pairsP g c≠0:=by
   intro h;rw [h] at hT;simp at hT
  simpa [h0] using hT
 obtain ⟨v,_,rfl⟩:=List.mem_map.1 hmap;obtain ⟨hv,he⟩:=a3 v (by simp [aEp])
 rw [aBk hm] at hv;have h1:=aYr hg hm hv he
 have hp:aRo (2 ^ v)<=1:=by
  have:=bDb (k:=v) (n:=g.ports.length) (by omega) a2
  have e:aBq (2 ^ v) (2 ^ v)=0:=by
   apply Nat.eq_of_testBit_eq
   intro i
   rw [aFz (Nat.lt_of_lt_of_le a2 (Nat.le_trans (Nat.pow_le_pow_right (by decide) h5) (by decide))),aEp]
   simp
  rw [e] at this;have h0:aRo 0=0:=by decide
  omega
 omega
theorem bJ1:bBv:=by
 intro g hg h4 kind hk
 obtain ⟨n,hn,hn2⟩:=bFl hg h4;have hf:=bFk ((aCa g).2 hg);have hd:=aX4 hg h4 g.ports.length (Nat.le_refl _);have hi:=hg.ids;rw [bPw];refine ⟨fun _=>⟨by rw [hn];omega,by omega⟩,?_⟩
 refine bCs hf hn (by omega) h4 hk (fun c=>((bFs (aEr g) (aNa g c) g.ports.length:Nat):Int)) (by omega) (fun c _=>⟨by omega,by have:=bJb hg (aNa g c);omega⟩) (fun c hm T hT=>?_)
 rcases hk with rfl | rfl
 .have:=aVf hg (by omega) hm hT
  omega
 .have:=aT8 hg (by omega) (aRo T) hm hT (Nat.le_refl _)
  omega
end Go.Proofs.YtmoebklkkjbigaaGreatDoor

