/- Merged. -/
import Derived.Test.YtmoebklkkjbigaaGreatDoorZ43
set_option linter.unusedSimpArgs false
set_option linter.unnecessarySimpa false
set_option linter.unusedVariables false
set_option maxRecDepth 100000

namespace Go.Proofs.YtmoebklkkjbigaaGreatDoor
theorem bOt {l:List Nat} {n:Nat} (hn:l.Nodup) (hl:∀ x∈l,x<n):aDn n (fun u=>if u∈l then 1 else 0)=l.length:=by
 have h:=aNq (fun u=>decide (u∈l)) n;have e:(fun v=>if decide (v∈l)=true then 1 else 0)=fun u=>if u∈l then 1 else 0:=by funext u;simp
 rw [e] at h;rw [<- h];apply Nat.le_antisymm
 .exact aS0 (List.nodup_range.filter _) (fun x hx=>by simpa using (List.mem_filter.1 hx).2)
 .exact aS0 hn (fun x hx=>List.mem_filter.2 ⟨by simpa using hl x hx,by simpa using hx⟩)
theorem bGz {g:Graph} (hg:GOK g) {v:Nat} (hv:v<g.ports.length):(aEr g v).Nodup:=by
 have h:=aAu.1 (hg.links v hv);unfold aEr;rw [aA7 hv];rw [List.nodup_iff_pairwise_ne,List.pairwise_map];have h2:=List.pairwise_map.1 (List.nodup_iff_pairwise_ne.1 h.2);refine List.Pairwise.imp_of_mem ?_ h2
 intro a b ha hb hne e
 have a1:=aB3.1 (h.1 a ha);have b1:=aB3.1 (h.1 b hb);exact hne (by omega)
theorem aPr {g:Graph} (hg:GOK g):∀ k,k<=g.ports.length->aDn k (fun v=>aDn g.ports.length (fun u=>if u∈aEr g v then 1 else 0))=aPg g k
 | 0,_=>by simp [aPg,aDn]
 | k+1,hk=>by
  have hv:k<g.ports.length:=by omega
  rw [aMb hv,<- aPr hg k (by omega)]
  show _+aDn g.ports.length (fun u=>if u∈aEr g k then 1 else 0)=_
  rw [bOt (bGz hg hv) (fun x hx=>(aEd hg hx).1)];unfold aEr;rw [List.length_map,aA7 hv]
theorem aX3 {g:Graph} (hg:GOK g):2*(aPg g g.ports.length / 2)=aPg g g.ports.length:=by
 obtain ⟨m,hm⟩:=aTd (a:=fun v u=>if u∈aEr g v then 1 else 0) (fun v u=>by
  by_cases h:u∈aEr g v
  .rw [if_pos h,if_pos (aEd hg h).2.2]
  .rw [if_neg h,if_neg (fun h2=>h (aEd hg h2).2.2)]) (fun v=>by rw [if_neg (bGy hg v)]) g.ports.length
 rw [aPr hg _ (Nat.le_refl _)] at hm;omega
theorem bJb {g:Graph} (hg:GOK g) (t:Nat->Int):bFs (aEr g) t g.ports.length<=2*(aPg g g.ports.length / 2)+g.ids.length:=by
 have h:=bPs (aEr g) t g.ports.length;rw [aPr hg _ (Nat.le_refl _)] at h;rw [aX3 hg,hg.ids];exact h
def aNa (g:Graph) (c:aA2) (v:Nat):Int:=if aDp c v<0 then -1 else (aCg g v (aDp c v)).to
theorem aFm {g:Graph} {c:aA2} (hm:aC0 pairsP g c=0) {v:Nat} (hv:v<c.length):c.getD v []=[aDp c v] /\ -1<=aDp c v/\aDp c v<=((g.ports.getD v []).length:Int)-1:=aYn hm rfl hv
theorem bCy {g:Graph} (hg:GOK g) {v k:Nat} (hv:v<g.ports.length) (hk:k<(g.ports.getD v []).length):∃ u:Nat,(aCg g v (k:Int)).to=(u:Int)/\u<g.ports.length/\u∈aEr g v/\v∈aEr g u:=by
 have hl:aCg g v (k:Int)=(g.ports.getD v [])[k]:=by show (g.ports.getD v []).getD ((k:Int).toNat) default=_;rw [Int.toNat_natCast];exact aA7 hk
 have hmem:(aCg g v (k:Int))∈g.ports.getD v []:=by rw [hl];exact List.getElem_mem hk
 have h0:=(aAu.1 (hg.links v hv)).1 (aCg g v (k:Int)) (by rwa [aA7 hv] at hmem)
 have h1:=aB3.1 h0;have hu:(aCg g v (k:Int)).to.toNat∈aEr g v:=List.mem_map.2 ⟨_,hmem,rfl⟩;obtain ⟨a1,_,a3⟩:=aEd hg hu;exact ⟨(aCg g v (k:Int)).to.toNat,by omega,a1,hu,a3⟩
theorem aIw {g:Graph} {c:aA2} (hg:GOK g) (hm:aC0 pairsP g c=0) {v:Nat} (hv:v<g.ports.length):aDp c v = -1↔aNa g c v = -1:=by
 have hvc:v<c.length:=by rw [aBk hm];exact hv
 obtain ⟨_,h1,h2⟩:=aFm hm hvc;unfold aNa;constructor
 .intro h;rw [if_pos (by omega)]
 .intro h
  by_cases h0:aDp c v<0
  .omega
  .rw [if_neg h0] at h
   obtain ⟨u,e,_⟩:=bCy hg hv (k:=(aDp c v).toNat) (by omega)
   rw [Int.toNat_of_nonneg (by omega)] at e
   omega
theorem aNb {g:Graph} {c:aA2} (hg:GOK g) (hm:aC0 pairsP g c=0) {u v:Nat} (hu:u<g.ports.length) (h:v∈aEr g u):aDp c u=aCx (g.ports.getD u []) (v:Int)↔aNa g c u=(v:Int):=by
 have huc:u<c.length:=by rw [aBk hm];exact hu
 obtain ⟨_,h1,h2⟩:=aFm hm huc;have hls:=aAu.1 (hg.links u hu)
 have hge:0<=aCx (g.ports.getD u []) (v:Int):=by
  apply Int.not_lt.1
  intro hn
  obtain ⟨l,hl,e⟩:=List.mem_map.1 h;have:=aYw hn l hl;have h3:=aB3.1 (hls.1 l (by rwa [aA7 hu] at hl))
  omega
 obtain ⟨j,hj,ej,tj⟩:=aTc hge;have hlj:aCg g u (j:Int)=(g.ports.getD u [])[j]:=by show (g.ports.getD u []).getD ((j:Int).toNat) default=_;rw [Int.toNat_natCast];exact aA7 hj
 unfold aNa;constructor
 .intro e
  rw [if_neg (by omega),e,ej,hlj,tj]
 .intro e
  by_cases h0:aDp c u<0
  .rw [if_pos h0] at e;omega
  .rw [if_neg h0] at e
   obtain ⟨i,hi⟩:∃ i:Nat,aDp c u=(i:Int):=⟨(aDp c u).toNat,by omega⟩
   rw [hi] at e h2 ⊢;have hil:i<(g.ports.getD u []).length:=by omega
   have hli:aCg g u (i:Int)=(g.ports.getD u [])[i]:=by show (g.ports.getD u []).getD ((i:Int).toNat) default=_;rw [Int.toNat_natCast];exact aA7 hil
   rw [hli] at e;rw [ej];have hnd:((g.ports.getD u []).map Link.to).Nodup:=by rw [aA7 hu];exact hls.2
   have:=(List.getElem_inj (i:=i) (j:=j) (h₀:=by rw [List.length_map];exact hil) (h₁:=by rw [List.length_map];exact hj) hnd).1 (by simp only [List.getElem_map];rw [e,tj])
   omega
theorem bB8 (g:Graph) (c:aA2) (v:Nat):aCj g c v [⟨41,0⟩,⟨35,0⟩,⟨5,0⟩,⟨4,0⟩,⟨21,0⟩,⟨35,0⟩,⟨12,0⟩,⟨17,0⟩]=(aDp c v == -1&&(aEr g v).any fun u=>aDp c u==aCx (g.ports.getD u []) (v:Int)):=by
 show (aBv 41 (aBv 35 (aDp c v) (-1)) (aIm 21 ((List.range (g.ports.getD v []).length).map fun (k:Nat)=>aBb g c v (k:Int) (.bin ⟨35,0⟩ (.leaf ⟨12,0⟩) (.leaf ⟨17,0⟩)))) != 0)=_
 rw [aJq,aQh,aM6,aBj,aBj,aBj,aI6 g c v (· != 0) (.bin ⟨35,0⟩ (.leaf ⟨12,0⟩) (.leaf ⟨17,0⟩)) (fun u=>aB0 (aDp c u==aCx (g.ports.getD u []) (v:Int))) (fun k=>aM6 _ _)];simp only [aBj]
theorem bB9 (g:Graph) (c:aA2) (v:Nat):aCj g c v [⟨41,0⟩,⟨35,0⟩,⟨5,0⟩,⟨4,0⟩,⟨21,0⟩,⟨35,0⟩,⟨12,0⟩,⟨4,0⟩]=(aDp c v == -1&&(aEr g v).any fun u=>aDp c u == -1):=by
 show (aBv 41 (aBv 35 (aDp c v) (-1)) (aIm 21 ((List.range (g.ports.getD v []).length).map fun (k:Nat)=>aBb g c v (k:Int) (.bin ⟨35,0⟩ (.leaf ⟨12,0⟩) (.leaf ⟨4,0⟩)))) != 0)=_
 rw [aJq,aQh,aM6,aBj,aBj,aBj,aI6 g c v (· != 0) (.bin ⟨35,0⟩ (.leaf ⟨12,0⟩) (.leaf ⟨4,0⟩)) (fun u=>aB0 (aDp c u == -1)) (fun k=>aM6 _ _)];simp only [aBj]
theorem bBa (g:Graph) (c:aA2) (v:Nat):aCj g c v [⟨21,0⟩,⟨41,0⟩,⟨41,0⟩,⟨35,0⟩,⟨11,0⟩,⟨5,0⟩,⟨36,0⟩,⟨12,0⟩,⟨4,0⟩,⟨36,0⟩,⟨12,0⟩,⟨17,0⟩]=(List.range (g.ports.getD v []).length).any fun k=>((k:Int)==aDp c v&&aDp c (aCg g v (k:Int)).to.toNat != -1)&&aDp c (aCg g v (k:Int)).to.toNat != aCx (g.ports.getD (aCg g v (k:Int)).to.toNat []) (v:Int):=by
 show (aIm 21 ((List.range (g.ports.getD v []).length).map fun (k:Nat)=>aBv 41 (aBv 41 (aBv 35 (k:Int) (aDp c v)) (aBv 36 (aDp c (aCg g v (k:Int)).to.toNat) (-1))) (aBv 36 (aDp c (aCg g v (k:Int)).to.toNat) (aCx (g.ports.getD (aCg g v (k:Int)).to.toNat []) (v:Int)))) != 0)=_
 rw [aJq,aBj,List.any_map]
 congr 1
 funext k
 simp only [Function.comp,aQh,aM6,bPd,aBj]
def aKk (g:Graph) (c:aA2) (v:Nat):Bool:=aDp c v == -1&&(aEr g v).any fun u=>aDp c u==aCx (g.ports.getD u []) (v:Int)
def aI9 (g:Graph) (c:aA2) (v:Nat):Bool:=aDp c v == -1&&(aEr g v).any fun u=>aDp c u == -1
def aKx (g:Graph) (c:aA2) (v:Nat):Bool:=(List.range (g.ports.getD v []).length).any fun k=>((k:Int)==aDp c v&&aDp c (aCg g v (k:Int)).to.toNat != -1)&&aDp c (aCg g v (k:Int)).to.toNat != aCx (g.ports.getD (aCg g v (k:Int)).to.toNat []) (v:Int)
theorem bA9 (r0 r1 r2:Rule) (g:Graph) (c:aA2) (v:Nat):aAk [r0,r1,r2] g c v=if aCj g c v r0.guard then 0 else if aCj g c v r1.guard then 1 else if aCj g c v r2.guard then 2 else -1:=by
 unfold aAk;cases h0:aCj g c v r0.guard <;> cases h1:aCj g c v r1.guard <;> cases h2:aCj g c v r2.guard <;> simp [List.findIdx?_cons,h0,h1,h2]
theorem bB4 (g:Graph) (c:aA2) (v:Nat):aAk pairsP.rules g c v=if aKk g c v then 0 else if aI9 g c v then 1 else if aKx g c v then 2 else -1:=by
 show aAk [_,_,_] g c v=_
 rw [bA9];dsimp only;rw [bB8,bB9,bBa];rfl
theorem aQb {g:Graph} {c:aA2} (hg:GOK g) (hm:aC0 pairsP g c=0) {v:Nat} (hv:v<g.ports.length):aKk g c v=true↔aNa g c v = -1/\∃ u∈aEr g v,aNa g c u=(v:Int):=by
 unfold aKk;rw [Bool.and_eq_true,beq_iff_eq,aIw hg hm hv,List.any_eq_true];constructor
 .rintro ⟨h1,u,hu,h2⟩
  obtain ⟨a1,_,a3⟩:=aEd hg hu;exact ⟨h1,u,hu,(aNb hg hm a1 a3).1 (beq_iff_eq.1 h2)⟩
 .rintro ⟨h1,u,hu,h2⟩
  obtain ⟨a1,_,a3⟩:=aEd hg hu;exact ⟨h1,u,hu,beq_iff_eq.2 ((aNb hg hm a1 a3).2 h2)⟩
theorem aYy {g:Graph} {c:aA2} (hg:GOK g) (hm:aC0 pairsP g c=0) {v:Nat} (hv:v<g.ports.length):aI9 g c v=true↔aNa g c v = -1/\∃ u∈aEr g v,aNa g c u = -1:=by
 unfold aI9;rw [Bool.and_eq_true,beq_iff_eq,aIw hg hm hv,List.any_eq_true];constructor
 .rintro ⟨h1,u,hu,h2⟩
  exact ⟨h1,u,hu,(aIw hg hm (aEd hg hu).1).1 (beq_iff_eq.1 h2)⟩
 .rintro ⟨h1,u,hu,h2⟩
  exact ⟨h1,u,hu,beq_iff_eq.2 ((aIw hg hm (aEd hg hu).1).2 h2)⟩
theorem aW7 {g:Graph} {c:aA2} (hg:GOK g) (hm:aC0 pairsP g c=0) {v:Nat} (hv:v<g.ports.length):aKx g c v=true↔∃ u:Nat,u∈aEr g v/\aNa g c v=(u:Int)/\aNa g c u ≠ -1/\aNa g c u≠(v:Int):=by
 have hvc:v<c.length:=by rw [aBk hm];exact hv
 obtain ⟨_,h1,h2⟩:=aFm hm hvc;unfold aKx;rw [List.any_eq_true];constructor
 .rintro ⟨k,hk,h⟩
  rw [List.mem_range] at hk;rw [Bool.and_eq_true,Bool.and_eq_true,beq_iff_eq,bne_iff_ne,bne_iff_ne] at h;obtain ⟨⟨e1,e2⟩,e3⟩:=h;obtain ⟨u,t1,t2,t3,t4⟩:=bCy hg hv hk;rw [t1,Int.toNat_natCast] at e2 e3;refine ⟨u,t3,?_,fun h=>e2 ((aIw hg hm t2).2 h),fun h=>e3 ((aNb hg hm t2 t4).2 h)⟩
  unfold aNa;rw [if_neg (by omega),<- e1,t1]
 .rintro ⟨u,hu,e1,e2,e3⟩
  have h0:¬ aDp c v<0:=fun h=>by unfold aNa at e1;rw [if_pos h] at e1;omega
  refine ⟨(aDp c v).toNat,by rw [List.mem_range];omega,?_⟩
  obtain ⟨a1,_,a3⟩:=aEd hg hu
  have e4:(aCg g v (((aDp c v).toNat:Nat):Int)).to=(u:Int):=by
   unfold aNa at e1;rw [if_neg h0] at e1;rw [Int.toNat_of_nonneg (by omega)];exact e1
  rw [e4,Int.toNat_natCast,Bool.and_eq_true,Bool.and_eq_true,beq_iff_eq,bne_iff_ne,bne_iff_ne];exact ⟨⟨by omega,fun h=>e2 ((aIw hg hm a1).1 h)⟩,fun h=>e3 ((aNb hg hm a1 a3).1 h)⟩
theorem aP3:∀ {l:List Int} {i:Int},(∃ x∈l,x≠0)->∃ k:Nat,∃ hk:k<l.length,l[k]≠0/\aG8 l i=i+(k:Int)
 | [],_,h=>by obtain ⟨x,hx,_⟩:=h;cases hx
 | a :: l,i,h=>by
  by_cases ha:a=0
  .subst ha
   obtain ⟨x,hx,h0⟩:=h
   rcases List.mem_cons.1 hx with rfl | hx
   .exact absurd rfl h0
   .obtain ⟨k,hk,h1,h2⟩:=aP3 (l:=l) (i:=i+1) ⟨x,hx,h0⟩
    refine ⟨k+1,by simp;omega,by simpa using h1,?_⟩
    show (if (0:Int)≠0 then i else aG8 l (i+1))=_
    rw [if_neg (by simp),h2];omega
  .refine ⟨0,by simp,by simpa using ha,?_⟩
   show (if a≠0 then i else aG8 l (i+1))=_
   rw [if_pos ha];simp
theorem aXj {g:Graph} {v:Nat} (L:Nat->Int) (h:(List.range (g.ports.getD v []).length).any (fun k=>L k != 0)=true) :
  ∃ k:Nat,k<(g.ports.getD v []).length/\L k≠0/\aJ0 3 (-1,((g.ports.getD v []).length:Int)-1) (aIm 23 ((List.range (g.ports.getD v []).length).map L))=(k:Int):=by
 rw [List.any_eq_true] at h;obtain ⟨k0,hk0,h0⟩:=h;obtain ⟨k,hk,h1,h2⟩:=aP3 (l:=(List.range (g.ports.getD v []).length).map L) (i:=0) ⟨L k0,List.mem_map.2 ⟨k0,hk0,rfl⟩,by simpa using h0⟩
 have hkl:k<(g.ports.getD v []).length:=by simpa using hk
 refine ⟨k,hkl,by simpa using h1,?_⟩
 have e:aIm 23 ((List.range (g.ports.getD v []).length).map L)=aG8 ((List.range (g.ports.getD v []).length).map L) 0:=rfl;rw [e,h2];unfold aJ0;rw [if_pos (by constructor <;> simp only <;> omega)]
 omega
theorem bB7 {g:Graph} {c:aA2} (hm:aC0 pairsP g c=0) {v:Nat} (hv:v<c.length) (hf:aAk pairsP.rules g c v=2):(aFe pairsP g c v).getD 0 0 = -1:=by
 obtain ⟨h1,_⟩:=aFm hm hv;rw [aMy (k:=2) (e:=[⟨4,0⟩]) (y:=aDp c v) hf rfl rfl h1];show aJ0 3 (-1,((g.ports.getD v []).length:Int)-1) (-1) = -1
 unfold aJ0;split <;> rfl
theorem bB5 {g:Graph} {c:aA2} (hm:aC0 pairsP g c=0) {v:Nat} (hv:v<c.length) (hf:aAk pairsP.rules g c v=0) (ha:aKk g c v=true):∃ k:Nat,k<(g.ports.getD v []).length/\(aFe pairsP g c v).getD 0 0=(k:Int)/\aDp c (aCg g v (k:Int)).to.toNat=aCx (g.ports.getD (aCg g v (k:Int)).to.toNat []) (v:Int):=by
 obtain ⟨h1,_⟩:=aFm hm hv;unfold aKk at ha;rw [Bool.and_eq_true] at ha
 have h2:((List.range (g.ports.getD v []).length).map fun (k:Nat)=>aBb g c v (k:Int) (.bin ⟨35,0⟩ (.leaf ⟨12,0⟩) (.leaf ⟨17,0⟩))).any (fun x=>x != 0)=true:=by
  rw [aI6 g c v (fun x=>x != 0) (.bin ⟨35,0⟩ (.leaf ⟨12,0⟩) (.leaf ⟨17,0⟩)) (fun u=>aB0 (aDp c u==aCx (g.ports.getD u []) (v:Int))) (fun k=>aM6 _ _)];simpa only [aBj] using ha.2
 rw [List.any_map] at h2;obtain ⟨k,hk,e1,e2⟩:=aXj (g:=g) (v:=v) (fun k=>aBb g c v (k:Int) (.bin ⟨35,0⟩ (.leaf ⟨12,0⟩) (.leaf ⟨17,0⟩))) h2;refine ⟨k,hk,?_,?_⟩
 .rw [aMy (k:=0) (e:=[⟨23,0⟩,⟨35,0⟩,⟨12,0⟩,⟨17,0⟩]) (y:=aDp c v) hf rfl rfl h1]
  exact e2
 .have e3:aB0 (aDp c (aCg g v (k:Int)).to.toNat==aCx (g.ports.getD (aCg g v (k:Int)).to.toNat []) (v:Int))≠0:=by
   rw [<- aM6];exact e1
  by_cases h:aDp c (aCg g v (k:Int)).to.toNat=aCx (g.ports.getD (aCg g v (k:Int)).to.toNat []) (v:Int)
  .exact h
  .rw [show (aDp c (aCg g v (k:Int)).to.toNat==aCx (g.ports.getD (aCg g v (k:Int)).to.toNat []) (v:Int))=false by rw [beq_eq_false_iff_ne];exact h] at e3
   exact absurd rfl e3
theorem bB6 {g:Graph} {c:aA2} (hm:aC0 pairsP g c=0) {v:Nat} (hv:v<c.length) (hf:aAk pairsP.rules g c v=1) (ha:aI9 g c v=true):∃ k:Nat,k<(g.ports.getD v []).length/\(aFe pairsP g c v).getD 0 0=(k:Int)/\aDp c (aCg g v (k:Int)).to.toNat = -1:=by
 obtain ⟨h1,_⟩:=aFm hm hv;unfold aI9 at ha;rw [Bool.and_eq_true] at ha
 have h2:((List.range (g.ports.getD v []).length).map fun (k:Nat)=>aBb g c v (k:Int) (.bin ⟨35,0⟩ (.leaf ⟨12,0⟩) (.leaf ⟨4,0⟩))).any (fun x=>x != 0)=true:=by
  rw [aI6 g c v (fun x=>x != 0) (.bin ⟨35,0⟩ (.leaf ⟨12,0⟩) (.leaf ⟨4,0⟩)) (fun u=>aB0 (aDp c u == -1)) (fun k=>aM6 _ _)];simpa only [aBj] using ha.2
 rw [List.any_map] at h2;obtain ⟨k,hk,e1,e2⟩:=aXj (g:=g) (v:=v) (fun k=>aBb g c v (k:Int) (.bin ⟨35,0⟩ (.leaf ⟨12,0⟩) (.leaf ⟨4,0⟩))) h2;refine ⟨k,hk,?_,?_⟩
 .rw [aMy (k:=1) (e:=[⟨23,0⟩,⟨35,0⟩,⟨12,0⟩,⟨4,0⟩]) (y:=aDp c v) hf rfl rfl h1]
  exact e2
 .have e3:aB0 (aDp c (aCg g v (k:Int)).to.toNat == -1)≠0:=by
   rw [<- aM6];exact e1
  by_cases h:aDp c (aCg g v (k:Int)).to.toNat = -1
  .exact h
  .rw [show (aDp c (aCg g v (k:Int)).to.toNat == -1)=false by rw [beq_eq_false_iff_ne];exact h] at e3
   exact absurd rfl e3
def bKh (g:Graph) (c:aA2) (v:Nat):Int:=if (aFe pairsP g c v).getD 0 0<0 then -1 else (aCg g v ((aFe pairsP g c v).getD 0 0)).to
theorem bMx {g:Graph} {c:aA2} {T v:Nat} (hv:v<c.length):aNa g (aAd pairsP g c T) v=if T.testBit v then bKh g c v else aNa g c v:=by
 unfold aNa bKh;rw [aV9 hv];cases T.testBit v <;> rfl
theorem bB3 {g:Graph} {c:aA2} (hg:GOK g) (hm:aC0 pairsP g c=0) {v:Nat} (hv:v<g.ports.length) (he:0<=aAk pairsP.rules g c v):MoveP (aEr g) (aNa g c) v (bKh g c v):=by
 have hvc:v<c.length:=by rw [aBk hm];exact hv
 have hf:=bB4 g c v;cases ha:aKk g c v with
 | true =>
  rw [ha,if_pos rfl] at hf;obtain ⟨k,hk,e1,e2⟩:=bB5 hm hvc hf ha;obtain ⟨u,t1,t2,t3,t4⟩:=bCy hg hv hk;have hn:bKh g c v=(u:Int):=by unfold bKh;rw [e1,if_neg (by omega),t1]
  rw [t1,Int.toNat_natCast] at e2;rw [hn];exact .accept u ((aQb hg hm hv).1 ha).1 t3 ((aNb hg hm t2 t4).1 e2)
 | false =>
  rw [ha,if_neg (by decide)] at hf
  cases hp:aI9 g c v with
  | true =>
   rw [hp,if_pos rfl] at hf;obtain ⟨k,hk,e1,e2⟩:=bB6 hm hvc hf hp;obtain ⟨u,t1,t2,t3,t4⟩:=bCy hg hv hk;have hn:bKh g c v=(u:Int):=by unfold bKh;rw [e1,if_neg (by omega),t1]
   rw [t1,Int.toNat_natCast] at e2;rw [hn];have h0:=((aYy hg hm hv).1 hp).1;refine .propose u h0 (fun x hx h=>?_) t3 ((aIw hg hm t2).1 e2)
   have:=(aQb hg hm hv).2 ⟨h0,x,hx,h⟩;rw [ha] at this;cases this
  | false =>
   rw [hp,if_neg (by decide)] at hf
   cases hw:aKx g c v with
   | true =>
    rw [hw,if_pos rfl] at hf;have e1:=bB7 hm hvc hf;have hn:bKh g c v = -1:=by unfold bKh;rw [e1,if_pos (by decide)]
    obtain ⟨u,hu,e2,e3,e4⟩:=(aW7 hg hm hv).1 hw;rw [hn];exact .withdraw u e2 e3 e4
   | false =>
    rw [hw,if_neg (by decide)] at hf
    omega
theorem bOu {g:Graph} {c:aA2} {v:Nat} (hv:v<c.length):aNa g (aAd pairsP g c (2 ^ v))=aFv (aNa g c) v (bKh g c v):=by
 funext u
 by_cases hu:u<c.length
 .rw [bMx hu,aEp]
  unfold aFv
  by_cases e:u=v
  .subst e;simp
  .rw [if_neg e,if_neg (by simp;omega)]
 .unfold aFv
  rw [if_neg (by omega)]
  have h1:aDp (aAd pairsP g c (2 ^ v)) u=aDp c u:=by
   unfold aDp;rw [List.getD_eq_getElem?_getD (l:=aAd pairsP g c (2 ^ v)),List.getD_eq_getElem?_getD (l:=c),List.getElem?_eq_none (by rw [aBe];omega),List.getElem?_eq_none (by omega)]
  unfold aNa;rw [h1]
theorem aYr {g:Graph} {c:aA2} (hg:GOK g) (hm:aC0 pairsP g c=0) {v:Nat} (hv:v<g.ports.length) (he:0<=aAk pairsP.rules g c v):bFs (aEr g) (aNa g (aAd pairsP g c (2 ^ v))) g.ports.length+1<=bFs (aEr g) (aNa g c) g.ports.length:=by
 rw [bOu (by rw [aBk hm];exact hv)]
 exact bMg (bGx hg) hv (bB3 hg hm hv he)
theorem bDb {X k n:Nat} (hn:n<=32) (hX:X<2 ^ n):aRo X<=aRo (aBq X (2 ^ k))+1:=by
 have hX32:X<4294967296:=Nat.lt_of_lt_of_le hX (Nat.pow_le_pow_right (n:=2) (by decide) hn)
 have hD:aBq X (2 ^ k)<2 ^ n:=by
  apply Nat.lt_pow_two_of_testBit
  intro i hi
  rw [aFz hX32,Nat.testBit_lt_two_pow (Nat.lt_of_lt_of_le hX (Nat.pow_le_pow_right (by decide) hi))]
  rfl
 rw [bBg hn hX,bBg hn hD];refine bJz (j:=k) (fun i _ hi=>?_) ?_
 .rw [aFz hX32,aEp]
  have:decide (k=i)=false:=by simp;omega
  rw [this];simp
 .split <;> omega
theorem aT8 {g:Graph} (hg:GOK g) (h5:g.ports.length<=5):∀ (m:Nat) {c:aA2},aC0 pairsP g c=0->∀ {X:Nat},X∈(aAq g 2 (aAe pairsP g c)).1->aRo X<=m->aRo X+bFs (aEr g) (aNa g (aAd pairsP g c X)) g.ports.length<=bFs (aEr g) (aNa g c) g.ports.length
 | 0,c,hm,X,hX,hp=>by
  obtain ⟨a1,a2,_,_⟩:=aI3 hm h5 (.inr rfl) hX;have:=bBf (Nat.lt_of_lt_of_le a2 (Nat.le_trans (Nat.pow_le_pow_right (by decide) h5) (by decide))) a1
  omega
 | m+1,c,hm,X,hX,hp=>by
  obtain ⟨a1,a2,a3,_⟩:=aI3 hm h5 (.inr rfl) hX;have hX32:X<4294967296:=Nat.lt_of_lt_of_le a2 (Nat.le_trans (Nat.pow_le_pow_right (by decide) h5) (by decide))
  obtain ⟨k,q,e1,hk,e2,e3,e4⟩:=aDl hX32 a1;have hbit:X.testBit k=true:=by rw [e1,Nat.testBit_two_pow_mul];simp
  obtain ⟨hkc,hke⟩:=a3 k hbit;rw [aBk hm] at hkc;have h1:=aYr hg hm hkc hke
  by_cases hs:2 ^ k=X
  .have hp1:aRo X<=1:=by
    have hq:q=0:=by
     have:2 ^ k*(2*q+1)=2 ^ k*1:=by rw [<- e1,<- hs];omega
     have:=Nat.eq_of_mul_eq_mul_left (Nat.two_pow_pos k) this;omega
    unfold aRo;rw [e4,hq];simp [aAg]
   rw [<- hs] at hp1 ⊢;omega
  .have hsub:2 ^ k&&&X=2 ^ k:=by
    apply Nat.eq_of_testBit_eq
    intro i
    rw [Nat.testBit_and,aEp]
    by_cases e:k=i
    .subst e;simp [hbit]
    .simp [e]
   obtain ⟨s1,s2,s3⟩:=bBp hm h5 hX hsub (by have:=Nat.two_pow_pos k;omega) hs
   have hm2:aC0 pairsP g (aAd pairsP g c (2 ^ k))=0:=(aIj hm (by decide) h5 s1).2.2
   have hd:=bDb (n:=g.ports.length) (k:=k) (by omega) a2
   have hlt:aRo (aBq X (2 ^ k))<=m:=by
    have:aRo X=aRo (2 ^ k*(2*q))+1:=by unfold aRo;rw [e4];simp
    have e5:aBq X (2 ^ k)=2 ^ k*(2*q):=by
     apply Nat.eq_of_testBit_eq
     intro i
     rw [aFz hX32,aEp,e1,Nat.testBit_two_pow_mul,Nat.testBit_two_pow_mul]
     by_cases h:k<=i
     .by_cases e:k=i
      .subst e;simp
      .obtain ⟨j,hj⟩:∃ j,i-k=j+1:=⟨i-k-1,by omega⟩
       rw [hj,Nat.testBit_succ,Nat.testBit_succ];have:(2*q+1) / 2=2*q / 2:=by omega
       rw [this];simp [e]
     .simp [h]
    rw [e5];omega
   have ih:=aT8 hg h5 m hm2 s2 hlt;rw [s3] at ih;omega
end Go.Proofs.YtmoebklkkjbigaaGreatDoor

