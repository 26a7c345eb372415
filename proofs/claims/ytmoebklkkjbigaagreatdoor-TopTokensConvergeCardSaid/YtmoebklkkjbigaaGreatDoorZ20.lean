/- Merged. -/
import Derived.Test.YtmoebklkkjbigaaGreatDoorZ17
set_option linter.unusedSimpArgs false
set_option linter.unnecessarySimpa false
set_option linter.unusedVariables false
set_option maxRecDepth 100000
set_option maxHeartbeats 4000000
open Go.Proofs.Tryz

namespace Go.Proofs.YtmoebklkkjbigaaGreatDoor
def gF (p:Prg) (g:Graph) (c:aA3) (v:Nat):Int :=
 if 0<=aAm p.rules g c v then aS4 ((aEm (aAb p g)).getD v []) (aHh p g c v) (c.getD v []) else 0
def bCe (P D C:List Int) (x:Nat):Int:=aS4 (P.take x) (D.take x) (C.take x)
theorem aX8 (P D C:List Int):bCe P D C 0=0:=by simp [bCe,aS4]
theorem aX5:∀ (P D C:List Int) (a b c:Int),P.length=D.length->D.length=C.length->aS4 (P++[a]) (D++[b]) (C++[c])=aS4 P D C+(b-c)*a
 | [],[],[],a,b,c,_,_=>by simp [aS4]
 | p :: P,d :: D,e :: C,a,b,c,h1,h2=>by
  have ih:=aX5 P D C a b c (by simpa using h1) (by simpa using h2)
  show (d-e)*p+aS4 (P++[a]) (D++[b]) (C++[c])=(d-e)*p+aS4 P D C+(b-c)*a
  rw [ih,Int.add_assoc]
 | [],_ :: _,_,_,_,_,h,_=>by simp at h
 | _ :: _,[],_,_,_,_,h,_=>by simp at h
 | [],[],_ :: _,_,_,_,_,h=>by simp at h
 | _ :: _,_ :: _,[],_,_,_,_,h=>by simp at h
theorem aX7 {P D C:List Int} {x:Nat} (h1:x<P.length) (h2:x<D.length) (h3:x<C.length):bCe P D C (x+1)=bCe P D C x+(D[x]-C[x])*P[x]:=by
 unfold bCe;rw [List.take_succ_eq_append_getElem h1,List.take_succ_eq_append_getElem h2,List.take_succ_eq_append_getElem h3,aX5 _ _ _ _ _ _ (by simp;omega) (by simp;omega)]
theorem aX6 {P D C:List Int} {x:Nat} (h1:P.length=x) (h2:D.length=x) (h3:C.length=x):bCe P D C x=aS4 P D C:=by
 unfold bCe;rw [List.take_of_length_le (by omega),List.take_of_length_le (by omega),List.take_of_length_le (by omega)]
theorem bO7 {a b A B:Int} (h1 : -A<=a) (h2:a<=A) (h3:0<=b) (h4:b<=B) (hA:0<=A) : -(A*B)<=a*b/\a*b<=A*B:=by
 have h5:=Int.mul_le_mul_of_nonneg_right h2 h3;have h6:=Int.mul_le_mul_of_nonneg_right h1 h3;have h7:=Int.mul_le_mul_of_nonneg_left h4 hA;rw [Int.neg_mul] at h6;omega
structure RowSm (P D C:List Int) (n:Nat):Prop where
 lp:P.length=n
 ld:D.length=n
 lc:C.length=n
 le:n<=10
 p:∀ x (h:x<P.length),0<=P[x]/\P[x]<=32768
 d:∀ x (h:x<D.length) (h':x<C.length),-90000<=D[x]-C[x]/\D[x]-C[x]<=90000
 di:∀ x (h:x<D.length),-90000<=D[x]/\D[x]<=90000
 ci:∀ x (h:x<C.length),-90000<=C[x]/\C[x]<=90000
theorem RowSm.term {P D C:List Int} {n:Nat} (h:RowSm P D C n) {x:Nat} (hx:x<n) : -2949120000<=(D[x]'(by rw [h.ld];exact hx)-C[x]'(by rw [h.lc];exact hx))*P[x]'(by rw [h.lp];exact hx)/\(D[x]'(by rw [h.ld];exact hx)-C[x]'(by rw [h.lc];exact hx))*P[x]'(by rw [h.lp];exact hx)<=2949120000:=by
 have hp:=h.p x (by rw [h.lp];exact hx)
 have hd:=h.d x (by rw [h.ld];exact hx) (by rw [h.lc];exact hx)
 have:=bO7 (A:=90000) (B:=32768) hd.1 hd.2 hp.1 hp.2 (by decide)
 omega
theorem RowSm.part {P D C:List Int} {n:Nat} (h:RowSm P D C n):∀ x:Nat,x<=n -> -(x*2949120000:Int)<=bCe P D C x/\bCe P D C x<=x*2949120000
 | 0,_=>by rw [aX8];simp
 | x+1,hx=>by
  have ih:=h.part x (by omega)
  have ht:=h.term (x:=x) (by omega)
  rw [aX7 (by rw [h.lp];omega) (by rw [h.ld];omega) (by rw [h.lc];omega)]
  omega
theorem bMz {p:Prg} {g:Graph} {c:aA3} (hm:aC4 p g c=0) (hsz:aDn p g<=32768) (hL:p.vars.length<=10) {v:Nat} (hv:v<c.length) (hen:0<=aAm p.rules g c v) :
  RowSm ((aEm (aAb p g)).getD v []) (aHh p g c v) (c.getD v []) p.vars.length:=by
 have hf:=(aBy hm).1;have hS:=aIj hf;have hcl:=aBx hm;have hg:=(aAt hf).2.1;have hvt:v<(aAb p g).length:=by rw [aAr,hg.ids,<- hcl];exact hv
 have hrow:(aAb p g)[v].length=p.vars.length:=aTk hvt;have hin:=aR4 hm;have h1:=(aQw.1 hin).2 v hv hvt;have hst:=aQv.1 h1;have hst2:=aCz.1 (aSz hm hv hen);have e1:c.getD v []=c[v]:=aA8 hv
 have e2:(aEm (aAb p g)).getD v []=aDz (aAz ((aAb p g).drop (v+1))) (aAb p g)[v]:=by
  rw [List.getD_eq_getElem?_getD,aKl hvt];rfl
 have e3:aJ3 p g v=(aAb p g)[v]:=by simp [aAb]
 rw [e3] at hst2
 have bnd:∀ {l:List Int},(l.length=(aAb p g)[v].length/\∀ i,(h1:i<l.length)->(h2:i<(aAb p g)[v].length)->(aAb p g)[v][i].1<=l[i]/\l[i]<=(aAb p g)[v][i].2)->∀ i (h:i<l.length),-4096<=l[i]/\l[i]<=80000:=by
  intro l hl i hi
  have h2:i<(aAb p g)[v].length:=by rw [<- hl.1];exact hi
  have h3:=hl.2 i hi h2;have h4:=hS.at_ hvt h2;omega
 have bd:=bnd hst2;have bc:=bnd hst;rw [e1,e2];refine ⟨by rw [aEf,hrow],by rw [hst2.1,hrow],by rw [hst.1,hrow],hL,fun x hx=>?_,fun x h h'=>?_,fun x h=>?_,fun x h=>?_⟩
 .have hx':x<(aAb p g)[v].length:=by rwa [aEf] at hx
  have hpx:(aDz (aAz ((aAb p g).drop (v+1))) (aAb p g)[v])[x]=aB4 ((aAb p g)[v].drop (x+1))*aAz ((aAb p g).drop (v+1)):=aRj _ _ x hx;rw [hpx];have:=aRu (aPz hf) hsz hvt (x+1);omega
 .have a1:=bd x h
  have a2:=bc x h';omega
 .have a1:=bd x h;omega
 .have a1:=bc x h;omega
theorem bLi {p:Prg} {g:Graph} {c:aA3} (hm:aC4 p g c=0) (hsz:aDn p g<=32768) (hL:p.vars.length<=10) {v:Nat} (hv:v<c.length) : -29491200000<=gF p g c v/\gF p g c v<=29491200000:=by
 unfold gF
 by_cases hen:0<=aAm p.rules g c v
 .rw [if_pos hen]
  have h:=bMz hm hsz hL hv hen;have h2:=h.part _ (Nat.le_refl _);rw [aX6 h.lp h.ld h.lc] at h2;omega
 .rw [if_neg hen];omega
theorem bPz {p:Prg} {g:Graph} {c:aA3} (hm:aC4 p g c=0) {S:Nat} (hS:S<4294967296) (hw:aBj S (aAe p g c)=true) :
  bB0 p g (aAf p g c S)=bB0 p g c+((aAd S).map (gF p g c)).sum:=by
 have hf:=(aBy hm).1;have hg:=(aAt hf).2.1;have hcl:=aBx hm;have hle:=hg.le
 have hen:∀ v,v<c.length->S.testBit v=true->0<=aAm p.rules g c v:=fun v hv hb=>by
  have:=aAi.1 hw v (by omega) hb
  rw [aDs] at this;simp at this
  exact this.2
 have hlt:S<2 ^ c.length:=by
  apply Nat.lt_pow_two_of_testBit
  intro i hi
  cases hb:S.testBit i with
  | false=>rfl
  | true =>
   have:=aAi.1 hw i (aIp hS hb) hb;rw [aDs] at this;simp at this
   omega
 unfold bB0;rw [bCm _ _ _ (aR4 hm) (aR4 (aKn hm hen))]
 congr 1
 refine bLj (n:=c.length) (by omega) hlt (by rw [aCq,aAr,hg.ids,hcl]) (aDb _ _ _ _) rfl (fun v hv hb=>?_) (fun v hv hb=>?_)
 .rw [aN7 p g c S hv,if_pos hb];unfold gF;rw [if_pos (hen v hv hb)]
 .rw [aN7 p g c S hv,hb];rfl
theorem bG8 {l:List Nat} {f:Nat->Int} {B:Int} (h:∀ v∈l,-B<=f v/\f v<=B) : -(l.length*B:Int)<=(l.map f).sum/\(l.map f).sum<=l.length*B:=by
 induction l with
 | nil=>simp
 | cons v l ih =>
  have h1:=h v (List.mem_cons_self ..);have h2:=ih fun w hw=>h w (List.mem_cons_of_mem _ hw);have e:((l.length+1:Nat):Int)*B=(l.length:Int)*B+B:=by rw [Int.natCast_add,Int.add_mul];simp
  rw [List.map_cons,List.sum_cons,List.length_cons,e];omega
theorem aFt {g:Graph} {kind:Int} {E T:Nat} (hE:E<4294967296) (h:T∈(aB0 g kind E).1):T<4294967296/\aBj T E=true:=by
 have key:T&&&E=T->T<4294967296/\aBj T E=true:=fun e=>by
  have hlt:T<4294967296:=by have:=aCt e;omega
  exact ⟨hlt,(aGs hlt hE).1 e⟩
 unfold aB0 at h;split at h
 .cases h
 split at h
 .obtain ⟨v,hv,rfl⟩:=List.mem_map.1 h
  obtain ⟨hv1,hv2⟩:=aC8.1 hv;refine ⟨aLb hv1,?_⟩
  rw [aAi];intro u _ hu;rw [aIl] at hu;obtain rfl:v=u:=by simpa using hu
  exact hv2
 split at h
 .obtain rfl:T=E:=by simpa using h
  exact key (Nat.and_self _)
 split at h
 .cases h
 .rename_i h0 _ _ _
  have h1:=(List.mem_filter.1 h).1;have h2:=(aId hE (E-lsb E+1) _ (by omega) aIc (aSy hE h0) T).1 h1
  exact key h2.2
def aBs (x:Nat × Int):List Value:=[.int .u32 (x.1:Int),.int .i64 x.2]
theorem aI6 (l:List (Nat × Int)) (i:Nat) (x:Nat × Int) (h:l[i]?=some x):(l.flatMap aBs)[i*2]?=some (.int .u32 (x.1:Int))/\(l.flatMap aBs)[i*2+1]?=some (.int .i64 x.2):=by
 induction l generalizing i with
 | nil=>simp at h
 | cons y l ih =>
  cases i with
  | zero =>
   obtain rfl:y=x:=by simpa using h
   simp [aBs]
  | succ i =>
   have:=ih i (by simpa using h)
   rw [show (i+1)*2+1=(i*2+1)+1+1 by omega,show (i+1)*2=i*2+1+1 by omega]
   simpa [aBs] using this
theorem aTz (l:List (Nat × Int)) (i:Nat) (x:Nat × Int) (y:Int) (h:l[i]?=some x):(l.flatMap aBs).set (i*2+1) (.int .i64 y)=(l.set i (x.1,y)).flatMap aBs:=by
 induction l generalizing i with
 | nil=>simp at h
 | cons z l ih =>
  cases i with
  | zero =>
   obtain rfl:z=x:=by simpa using h
   simp [aBs]
  | succ i =>
   have:=ih i (by simpa using h)
   rw [show (i+1)*2+1=(i*2+1)+1+1 by omega]
   simpa [aBs] using this
theorem aWe (l:List (Nat × Int)) (i:Nat) (x:Nat × Int) (h:i<l.length):((l.flatMap aBs).set (i*2) (.int .u32 (x.1:Int))).set (i*2+1) (.int .i64 x.2)=(l.set i x).flatMap aBs:=by
 induction l generalizing i with
 | nil=>simp at h
 | cons z l ih =>
  cases i with
  | zero=>simp [aBs]
  | succ i =>
   have:=ih i (by simpa using h)
   rw [show (i+1)*2+1=(i*2+1)+1+1 by omega,show (i+1)*2=i*2+1+1 by omega]
   simpa [aBs] using this
theorem aQa (l:List (Nat × Int)):(l.flatMap aBs).length=l.length*2:=by
 induction l with
 | nil=>rfl
 | cons z l ih=>rw [List.flatMap_cons,List.length_append,ih,List.length_cons];simp [aBs];omega
theorem aU0 (m:Nat):(List.replicate m ((0,0):Nat × Int)).flatMap aBs=(madeCells (Value.agg #[.int .u32 0,.int .i64 0]).cells (m*2)).toList:=by
 apply List.ext_getElem?
 intro i
 by_cases hi:i<m*2
 .have h1:(List.replicate m ((0,0):Nat × Int))[i / 2]?=some (0,0):=by rw [List.getElem?_replicate,if_pos (by omega)]
  obtain ⟨f1,f2⟩:=aI6 _ (i / 2) _ h1
  have hm:(madeCells (Value.agg #[.int .u32 0,.int .i64 0]).cells (m*2)).toList[i]?=some (if i % 2=0 then .int .u32 0 else .int .i64 0):=by
   simp [madeCells,Value.cells,hi]
   rcases Nat.mod_two_eq_zero_or_one i with h | h <;> simp [h]
  rw [hm]
  rcases Nat.mod_two_eq_zero_or_one i with h | h
  .rw [if_pos h,show i=i / 2*2 by omega];exact f1
  .rw [if_neg (by omega)];conv=>lhs;rw [show i=i / 2*2+1 by omega]
   exact f2
 .rw [List.getElem?_eq_none (by rw [aQa];simp;omega),List.getElem?_eq_none (by simp [madeCells];omega)]
def aGo (L:List (Nat × Int)) (i:Nat):List (Nat × Int):=L.take i++List.replicate (L.length-i) (0,0)
theorem bEh (L:List (Nat × Int)):aGo L 0=List.replicate L.length (0,0):=by simp [aGo]
theorem bEg (L:List (Nat × Int)):aGo L L.length=L:=by simp [aGo]
theorem aXc {L:List (Nat × Int)} {i:Nat} (h:i<=L.length):(aGo L i).length=L.length:=by simp [aGo];omega
theorem bHi {L:List (Nat × Int)} {i:Nat} (h:i<L.length):(aGo L i).set i L[i]=aGo L (i+1):=by
 unfold aGo;rw [List.set_append_right _ _ (by simp;omega),List.length_take,Nat.min_eq_left (Nat.le_of_lt h),Nat.sub_self,show L.length-i=(L.length-(i+1))+1 by omega,List.replicate_succ,List.set_cons_zero]
 conv=>rhs;rw [List.take_succ_eq_append_getElem h,List.append_assoc]
 rfl
theorem aNk {p:Prg} {g:Graph} {c:aA3} (hm:aC4 p g c=0) (hL:aCc p=true):aHq c=true:=by
 have hf:=(aBy hm).1;have hg:=(aAt hf).2.1;have hcl:=aBx hm;have hle:=hg.le;have hv10:=(aBl hL).2.1;unfold aHq;rw [Bool.and_eq_true,decide_eq_true_eq,List.all_eq_true];refine ⟨by omega,fun r hr=>?_⟩
 obtain ⟨v,hv,rfl⟩:=List.getElem_of_mem hr;have hvt:v<(aAb p g).length:=by rw [aAr,hg.ids,<- hcl];exact hv
 have:=aKc ((aQw.1 (aR4 hm)).2 v hv hvt);rw [aTk hvt] at this;simp;omega
def aCk (n k:Nat) (f:Nat->Nat):List Value:=(List.range n).map fun u=>Value.int .u32 ((if u<k then f u else 0:Nat):Int)
theorem aUq (n:Nat) (f:Nat->Nat):aCk n 0 f=List.replicate n (.int .u32 0):=by
 apply List.ext_getElem
 .simp [aCk]
 .intro i h1 h2;simp [aCk]
theorem aR3 (n k:Nat) (f:Nat->Nat):(aCk n k f).length=n:=by simp [aCk]
theorem aY3 (n k:Nat) (f:Nat->Nat):(aCk n k f).set k (.int .u32 (f k:Int))=aCk n (k+1) f:=by
 apply List.ext_getElem
 .simp [aCk]
 .intro i h1 h2
  rw [List.getElem_set]
  by_cases h:k=i
  .subst h;rw [if_pos rfl];simp [aCk]
  .rw [if_neg h]
   simp only [aCk,List.getElem_map,List.getElem_range]
   by_cases hi:i<k
   .rw [if_pos hi,if_pos (by omega)]
   .rw [if_neg hi,if_neg (by omega)]
theorem bAq {n k:Nat} {f:Nat->Nat} {u:Nat} (hu:u<k) (hn:u<n):(aCk n k f)[u]?=some (.int .u32 (f u:Int)):=by
 unfold aCk;rw [List.getElem?_map,List.getElem?_range hn];simp [hu]
theorem bC5 {p:Prg} {g:Graph} {kind:Int} {c:aA3} (h5:g.ports.length<=5) (hc:c.length=g.ports.length):(aFf p g kind c).length<=31:=by
 unfold aFf;rw [List.length_map];refine (aD6 ?_).2.1
 have h1:=aVq c.length (fun u=>decide (0<=aAm p.rules g c u));have h2:2 ^ c.length<=2 ^ 5:=Nat.pow_le_pow_right (by decide) (by omega)
 unfold aAe;omega
open Go.RowKit
def aPd (p:Prg) (g:Graph) (c:aA3) (S v:Nat):aA3:=(List.range c.length).map fun u=>if u<v/\S.testBit u=true then aHh p g c u else c.getD u []
theorem aJn (p:Prg) (g:Graph) (c:aA3) (S v:Nat):(aPd p g c S v).length=c.length:=by simp [aPd]
theorem aN0 (p:Prg) (g:Graph) (c:aA3) (S v:Nat) (i:Nat):(aPd p g c S v)[i]?=if i<c.length then some (if i<v/\S.testBit i=true then aHh p g c i else c.getD i []) else none:=by
 unfold aPd;rw [List.getElem?_map]
 by_cases h:i<c.length
 .rw [List.getElem?_range h,if_pos h];rfl
 .rw [if_neg h,List.getElem?_eq_none (by simp;omega)];rfl
theorem bFk (p:Prg) (g:Graph) (c:aA3) (S:Nat):aPd p g c S 0=c:=by
 apply List.ext_getElem?
 intro i
 rw [aN0]
 by_cases h:i<c.length
 .rw [if_pos h,if_neg (by omega),aA8 h,List.getElem?_eq_getElem h]
 .rw [if_neg h,List.getElem?_eq_none (by omega)]
theorem bFj (p:Prg) (g:Graph) (c:aA3) (S:Nat):aPd p g c S c.length=aAf p g c S:=by
 unfold aPd aAf;refine List.map_congr_left fun u hu=>?_
 rw [List.mem_range] at hu;cases hb:S.testBit u with
 | true=>rw [if_pos ⟨hu,rfl⟩,if_pos rfl]
 | false=>rw [if_neg (fun h=>by cases h.2),if_neg (by decide)]
theorem bIy {p:Prg} {g:Graph} {c:aA3} {S v:Nat} (hb:S.testBit v=true):(aPd p g c S v).set v (aHh p g c v)=aPd p g c S (v+1):=by
 apply List.ext_getElem?
 intro i
 rw [List.getElem?_set,aN0,aN0,aJn]
 by_cases he:v=i
 .subst he
  rw [if_pos rfl]
  by_cases h:v<c.length
  .rw [if_pos h,if_pos h,if_pos ⟨by omega,hb⟩]
  .rw [if_neg h,if_neg h]
 .rw [if_neg he]
  have e:(i<v/\S.testBit i=true)↔(i<v+1/\S.testBit i=true):=by
   constructor
   .rintro ⟨h,h'⟩;exact ⟨by omega,h'⟩
   .rintro ⟨h,h'⟩;exact ⟨by omega,h'⟩
  simp only [e]
theorem bM8 {p:Prg} {g:Graph} {c:aA3} {S v:Nat} (hb:S.testBit v=false):aPd p g c S v=aPd p g c S (v+1):=by
 apply List.ext_getElem?
 intro i
 rw [aN0,aN0]
 have e:(i<v/\S.testBit i=true)↔(i<v+1/\S.testBit i=true):=by
  constructor
  .rintro ⟨h,h'⟩;exact ⟨by omega,h'⟩
  .rintro ⟨h,h'⟩
   refine ⟨?_,h'⟩
   have:i≠v:=by rintro rfl;rw [hb] at h';cases h'
   omega
 simp only [e]
theorem aSd (B:Nat) (p:Prg) (g:Graph) (vc:Value) (c:aA3) (S:Nat) (w:World) (hM:aEo w B p g) (hC:aD2 w vc c) (hm:aC4 p g c=0) (hS:S<4294967296) (hen:∀ v,v<c.length->S.testBit v=true->0<=aAm p.rules g c v) (hL:aCc p=true) (hCL:aHq c=true) :
  Calls prog 135 #[.pointer (some ⟨B,0,none⟩),vc,.int .u32 (S:Int)] w (bGp (aAf p g c S) w):=by
 have HM:=aA0 (fun w' (k:Bel w w')=>hM.keep k);have HC:=aA0 (fun w' (k:Bel w w')=>hC.keep k);obtain ⟨AC,kc,rfl,_,_,_⟩:=hC;have hle:c.length<=24:=by rw [aBx hm];exact (aAt (aBy hm).1).2.1.le
 have HK:=aA0 (fun v (hv:v<c.length)=>aUr hm hv);have HMM:=aA0 hm;have HEN:=aA0 hen;have HL:=aA0 hL;have HCL:=aA0 hCL;clear hm hen hL hCL hM;have HW:=Bel.refl w;go_enter func135,ntmps135
 go_wp2_with (go_at_call 132;refine (aP0 _ c _ (HC.out _ HW) HCL.out).mono ?_;rintro e w' ⟨gb,cap,hs,rfl,hO,hsn,hb⟩;have HO:=aA0 hO;have HSN:=aA0 hsn;clear hsn;replace HW:=HW.trans hb;clear hb hO)
 go_loopg [8,13] c.length (fun m _x z wr=>∃ (v:Nat) (hs:List Value),v<=c.length/\m=c.length-v/\z = .int .i64 v/\Hid (OwnC wr w.heap.size gb cap (aPd p g c S v) hs)/\Hid (aLx w.heap.size wr hs)/\Bel w wr)
 case atStart=>exact ⟨0,hs,by omega,rfl,rfl,by show OwnC _ _ _ _ _ _;rw [bFk];exact HO.out,HSN,HW⟩
 case round =>
  clear HO HSN HW;obtain ⟨v,hs,hv,rfl,rfl,HO,HSN,HW⟩:=hrel
  by_cases hlt:v<c.length
  .have hd0:decide (v<c.length)=true:=by simpa using hlt
   cases hb:S.testBit v with
   | true =>
    have hq:bits .and .u32 ((S:Int) / 2 ^ v) 1=1:=by rw [aZw hS,hb];rfl
    have hf:=HEN.out v hlt hb;obtain ⟨k,hk⟩:=Int.eq_ofNat_of_zero_le hf;have hkl:k<p.rules.length:=by have:=(aOw p.rules g c v).2;omega
    have HFK:=aA0 hk;have HPY:=aA0 (bIy (p:=p) (g:=g) (c:=c) hb);have HMF:Hid (aHh p g c v=aDx p g c v p.rules[k].sets):=by show _=_;unfold aHh;rw [hk,aRq hkl]
    have HSL:Hid (hs.length=c.length):=by have:=HO.out.own.1;rw [aJn] at this;show _=_;omega
    clear hf hk hb
    go_wp2_with (first
     | (go_at_call 82;refine (aGb B p g _ c v _ (HM.out _ HW) (HC.out _ HW) (HK.out v hlt) HL.out).mono ?_;rintro e w' ⟨rfl,hbb⟩;rw [HFK.out];replace HW:=HW.trans hbb;replace HO:=aA0 (HO.out.keep hbb);replace HSN:=aA0 (HSN.out.size hbb.size);clear hbb)
     | (go_at_call 83;refine (aMq B p g _ c v k _ (HM.out _ HW) (HC.out _ HW) HMM.out hlt hkl HL.out HCL.out).mono ?_;rintro e w' ⟨R,rc,rfl,hN,hbb⟩;have hgb:=(aAa HO.out.own).2;have HWZ:=aA0 HW.size;have HN:=aA0 hN;replace HW:=HW.trans hbb;replace HO:=aA0 (HO.out.keep hbb);replace HSN:=aA0 (HSN.out.size hbb.size);have y1:=aDy HO.out.own v (by rw [HSL.out];omega);have y2:=HO.out.own.frozenAt v;have ygb:=(aAa HO.out.own).2;clear hbb hN))
    go_roundg (c.length-(v+1))
    case rel =>
     refine ⟨v+1,hs.set v (.slice R (aDx p g c v p.rules[k].sets).length rc),by omega,rfl,by go_num,?_,(HSN.out.set HN.out HWZ.out v).size (by simp),HW.setCell (by have:=aAa HO.out.own;simp;omega) _⟩
     have h3:=HN.out;show OwnC _ _ _ _ _ _
     rw [<- HPY.out,HMF.out];exact HO.out.set (v:=v) (by rw [aJn];exact hlt) h3.1 h3.2.1 h3.2.2.1 (h3.off (by omega))
    case measure=>omega
   | false =>
    have hq:bits .and .u32 ((S:Int) / 2 ^ v) 1=0:=by rw [aZw hS,hb];rfl
    have HPN:=aA0 (bM8 (p:=p) (g:=g) (c:=c) hb);clear hb
    go_wp2_with fail
    go_roundg (c.length-(v+1))
    case rel=>exact ⟨v+1,hs,by omega,rfl,by go_num,by show OwnC _ _ _ _ _ _;rw [<- HPN.out];exact HO.out,HSN,HW⟩
    case measure=>omega
  .have hd0:decide (v<c.length)=false:=by simpa using hlt
   obtain rfl:v=c.length:=by omega
   go_wp2_with fail
   go_ret;have hO:=HO.out;rw [bFj] at hO;exact ⟨gb,cap,hs,by rw [aDb];rfl,hO,HSN.out,HW⟩
theorem aZg.nil (w:World) (B:Nat):aZg w B none 0 []:=⟨aAc.nil,Nat.le_refl _,by unfold maxLen;simp,fun b o e=>by cases e⟩
theorem aD2.nil (w:World):aD2 w (.slice none 0 0) []:=⟨none,0,rfl,aAc.nil,Nat.le_refl _,by unfold maxLen;omega⟩
theorem aAc.one {α:Type} {size:Nat} {E:World->Nat->Nat->α->Prop} {w:World} {b:Nat} {x:α} (hb:b<w.heap.size) (h:E w b 0 x):aAc size E w (some ⟨b,0,none⟩) 1 [x] :=
 ⟨rfl,fun i y hy=>by
  match i,hy with
  | 0,hy =>
   obtain rfl:x=y:=by simpa using hy
   exact ⟨b,0,rfl,hb,by rw [Nat.zero_mul];exact h⟩
  | i+1,hy=>simp at hy⟩
theorem aAc.two {α:Type} {size:Nat} {E:World->Nat->Nat->α->Prop} {w:World} {b:Nat} {x y:α} (hb:b<w.heap.size) (h:E w b 0 x) (h2:E w b size y):aAc size E w (some ⟨b,0,none⟩) 2 [x,y] :=
 ⟨rfl,fun i z hz=>by
  match i,hz with
  | 0,hz =>
   obtain rfl:x=z:=by simpa using hz
   exact ⟨b,0,rfl,hb,by rw [Nat.zero_mul];exact h⟩
  | 1,hz =>
   obtain rfl:y=z:=by simpa using hz
   exact ⟨b,0,rfl,hb,by rw [Nat.one_mul,Nat.zero_add];exact h2⟩
  | i+2,hz=>simp at hz⟩
theorem aYz {p:Prg} {g:Graph} {c:aA3} {T:Nat} (hm:aC4 p g c=0) (h0:T≠0) (hw:aBj T (aAe p g c)=true):bDm p g c T=(aAf p g c T,0):=by
 unfold bDm;rw [if_neg (by simpa using hm),if_neg (by rw [hw];simpa using h0)]
theorem aBq {P:Program} {t:TypeId} {z:Value} {s b:Nat} (h:(P.info? t).map (fun i=>(i.zero,i.size,i.bytes))=some (some z,s,b)):∃ i,P.info? t=some i/\i.zero=some z/\i.size=s/\i.bytes=b:=by
 cases hi:P.info? t with
 | none=>rw [hi] at h;cases h
 | some i =>
  rw [hi] at h;simp at h
  exact ⟨i,rfl,h.1,h.2.1,h.2.2⟩
def tokC (t:Tok):List Value:=[.int .i64 (t.kind:Int),.int .i64 (t.at_:Int),.int .i64 (t.en:Int),.int .i64 (t.num:Int)]
def aHb (ts:List Tok):List Value:=ts.flatMap tokC
theorem aW2 (ts:List Tok) (t:Tok):aHb (ts++[t])=aHb ts++tokC t:=by simp [aHb]
theorem bJz:(prog.info? 119).map (fun i=>(i.zero,i.size,i.bytes))=some (some (.agg #[.int .i64 0,.int .i64 0,.int .i64 0,.int .i64 0]),4,32):=by kernel_rfl
theorem bHo (a b c d:Int):∀ u∈(#[Value.int .i64 a,Value.int .i64 b,Value.int .i64 c,Value.int .i64 d]:Array Value).toList,u.oneCell'=true:=by simp [Value.oneCell']
theorem bHt (w:World) (o o2:Obj):((w.alloc o).alloc o2).heap[w.heap.size+1]?=some o2:=by
 have:=aAx (w.alloc o) o2
 rwa [World.size_alloc] at this
theorem bMo (l:List UInt8):aOg l<=l.length:=by
 match l with
 | []=>simp [aOg]
 | [c]=>simp [aOg];split <;> omega
 | c :: d :: r =>
  show (if signs2.contains (c,d) then 2 else if signs1.contains c then 1 else 0)<=_
  simp only [List.length_cons]
  split
  .omega
  .split <;> omega
theorem bCy {T:ByteArray} {k:Nat} {t:Tok} (hk:k<T.size) (h:aV2 (aA5 T) k=some t):k<t.en/\t.en<=T.size/\t.at_=k/\t.kind<=3:=by
 rw [bCx hk] at h;have hl:((aA5 T).drop k).length=T.size-k:=by rw [List.length_drop,aAv]
 split at h
 .rename_i h1
  split at h
  .injection h with h
   subst h;have hw:=aGx aEc ((aA5 T).drop k) k;have hw2:=aNd (k:=k) (l:=(aA5 T).drop (k+1)) (p:=aEc) (c:=T[k]) (by unfold aEc;rw [h1];rfl)
   rw [<- aCb T hk] at hw2;refine ⟨?_,?_,rfl,?_⟩ <;> dsimp only <;> omega
  .cases h
 .split at h
  .rename_i h2
   have hw:=aGx aEr ((aA5 T).drop k) k;have hw2:=aNd (k:=k) (l:=(aA5 T).drop (k+1)) (p:=aEr) (c:=T[k]) h2;rw [<- aCb T hk] at hw2;split at h
   .injection h with h
    subst h;refine ⟨?_,?_,rfl,?_⟩ <;> dsimp only <;> omega
   .cases h
  .have hs:=bMo ((aA5 T).drop k)
   split at h
   .cases h
   .injection h with h
    subst h;refine ⟨?_,?_,rfl,?_⟩ <;> dsimp only <;> omega
theorem bIk (T:ByteArray) (k:Nat) (t:Tok) (w:World) (hk:k<T.size) (hT:T.size<=1000000) (h:aV2 (aA5 T) k=some t) :
  Calls prog 53 #[.string T,.int .i64 (k:Int)] w fun e w'=>e = .returned (.tuple #[.agg #[.int .i64 (t.kind:Int),.int .i64 (t.at_:Int),.int .i64 (t.en:Int),.int .i64 (t.num:Int)],.int .i64 0])/\Bel w w':=bM0 T k t w hk hT h
theorem bMm (T:ByteArray) (ts:List Tok) (w:World) (hN:ts.length<=4000) (h:aGw (aA5 T)=some ts) :
  Calls prog 26 #[.string T] w fun e w'=>(∃ A c,e = .returned (.tuple #[.slice A ts.length c,.int .i64 0,.int .i64 0])/\w'.ownsRow w.heap.size 119 4 (.slice A ts.length c) ts.length (aHb ts))/\Bel w w':=by
 unfold aGw at h;split at h
 .rename_i hc
  rw [Bool.and_eq_true,decide_eq_true_iff,aAv] at hc;obtain ⟨hc,hT⟩:=hc
  have HC:Hid (∀ j (h:j<T.size),T[j].toNat≠35):=by
   intro j hj he
   have:=List.all_eq_true.1 hc T[j] (by
    have:=aCb T hj
    exact List.mem_of_mem_drop (i:=j) (by rw [this];exact List.mem_cons_self))
   have h2:T[j]=35:=by rw [<- UInt8.toNat_inj,he];rfl
   rw [h2] at this;simp at this
  have hT2:decide ((16384:Int)<(T.size:Int))=false:=by simp;omega
  obtain ⟨j0,hj0,hj1,hj2,hj3⟩:=aBq bJz;rw [aAv] at h;have HS:=aA0 h;clear h hc;obtain ⟨k0,hk0⟩:∃ k,aHx (aA5 T) 0=k:=⟨_,rfl⟩;have hk0le:k0<=T.size:=by have:=(aVu (aA5 T) 0).2;rw [aAv,hk0] at this;omega
  rw [hk0] at HS;have HK0:Hid (aHx ((aA5 T).drop 0) 0=k0):=by show _=_;simpa using hk0
  clear hk0;go_enter func26,ntmps26
  go_wp2_with (go_at_call 52;refine (bDk T 0 _ (by omega) (by omega) HC.out).mono ?_;rintro e w' ⟨rfl,rfl⟩;rw [HK0.out])
  go_loopg [5,6,7,8] (T.size+1) (fun m tv kv _x _y wr=>∃ (A:Option Addr) (c n k:Nat) (done rest:List Tok),m=n/\tv = .slice A done.length c/\kv = .int .i64 (k:Int)/\k<=T.size/\Hid (aOf (aA5 T) n k=some rest/\done++rest=ts)/\Hid (wr.ownsRow w.heap.size 119 4 (.slice A done.length c) done.length (aHb done))/\Bel w wr)
  case atStart=>exact ⟨none,0,_,k0,[],ts,rfl,rfl,rfl,hk0le,⟨HS.out,rfl⟩,World.ownsRow_nil _ _ _ _,Bel.refl _⟩
  case round =>
   obtain ⟨A,c,n,k,done,rest,rfl,rfl,rfl,hk,HR,HO,hbel⟩:=hrel;have hbs:=hbel.size
   by_cases hlt:k<T.size
   .have hd0:decide (k<T.size)=true:=by simpa using hlt
    obtain ⟨m,rfl⟩:∃ m,gk=m+1:=by
     match gk,HR.out.1 with
     | 0,h=>simp [aOf] at h
     | m+1,_=>exact ⟨m,rfl⟩
    have HX:=HR.out;rw [show aOf (aA5 T) (m+1) k=if k<(aA5 T).length then (match aV2 (aA5 T) k with | some t=>(match aOf (aA5 T) m (aHx ((aA5 T).drop t.en) t.en) with | some r=>some (t :: r) | none=>none) | none=>none) else some [] from rfl,if_pos (by rw [aAv];exact hlt)] at HX
    clear HR;obtain ⟨hx1,hx2⟩:=HX;cases hn:aV2 (aA5 T) k with
    | none=>rw [hn] at hx1;cases hx1
    | some t =>
     rw [hn] at hx1;dsimp only at hx1;cases hr:aOf (aA5 T) m (aHx ((aA5 T).drop t.en) t.en) with
     | none=>rw [hr] at hx1;cases hx1
     | some r =>
      rw [hr] at hx1;injection hx1 with hx1
      subst hx1;obtain ⟨t1,t2,t3,t4⟩:=bCy hlt hn;clear t3 t4;have hlen:done.length+1+r.length=ts.length:=by rw [<- hx2];simp;omega
      have HT1:Hid ((done++[t])++r=ts):=by show _=_;rw [<- hx2];simp
      have HNX:=aA0 hn;have HRR:=aA0 hr;clear hx2 hn hr;obtain ⟨k2,hk2⟩:∃ k2,aHx ((aA5 T).drop t.en) t.en=k2:=⟨_,rfl⟩;have hk2le:k2<=T.size:=by have:=(aVu ((aA5 T).drop t.en) t.en).2;rw [List.length_drop,aAv,hk2] at this;omega
      rw [hk2] at HRR;have HK2:=aA0 hk2;clear hk2;have hd1:((done.length:Int)==4096)=false:=by simp;omega
      go_wp2_with (first
       | (go_at_call 53;refine (bIk T k t _ hlt (by omega) HNX.out).mono ?_;rintro e w1 ⟨rfl,hb1⟩;have hsz1:=hb1.size;have HO1:=aA0 (hb1.owns HO.out);have hbel1:=(hbel.trans hb1).alloc (.cells #[.int .i64 t.kind,.int .i64 t.at_,.int .i64 t.en,.int .i64 t.num] 119);have HO2:=aA0 (HO1.out.alloc (.cells #[.int .i64 t.kind,.int .i64 t.at_,.int .i64 t.en,.int .i64 t.num] 119)))
       | (at_builtin;refine aBr _ rfl (.tmp 32) (.tmp 34) 73 rfl w.heap.size 119 j0 (.agg #[.int .i64 0,.int .i64 0,.int .i64 0,.int .i64 0]) 4 32 underlying73 hj0 hj1 hj2 hj3 rfl (by decide) A done.length c (aHb done) (by simp [Act.eval]) (HO2.out.alloc _) (w1.heap.size+1) #[.int .i64 t.kind,.int .i64 t.at_,.int .i64 t.en,.int .i64 t.num] 119 (0,0) (by simp [Act.eval]) (bHt _ _ _) rfl (bHo _ _ _ _) (by unfold maxLen;omega) (by omega) (by simp;omega) ?_;intro A' c' w2 hown2 hgr2 hat2;have hb2:Bel w w2:=(hbel1.alloc _).push (HO2.out.alloc _) hgr2;have hB2:=((Blk.new w1 #[.int .i64 t.kind,.int .i64 t.at_,.int .i64 t.en,.int .i64 t.num] 119).alloc (.cells #[.int .i64 t.kind,.int .i64 t.at_,.int .i64 t.en,.int .i64 t.num] 119)).grown hgr2 (fun e=>by have:=(HO1.out.lt _ e.symm).2;omega);have hen:=hB2.cell 2 (v := .int .i64 t.en) rfl;have hlt2:=hB2.lt)
       | (go_at_call 52;refine (bDk T t.en _ (by omega) (by omega) HC.out).mono ?_;rintro e w' ⟨rfl,rfl⟩;rw [HK2.out]))
      go_roundg m
      case rel =>
       have hl1:(done++[t]).length=done.length+1:=by simp
       refine ⟨A',c',m,k2,done++[t],r,rfl,by rw [hl1],rfl,hk2le,⟨HRR.out,HT1.out⟩,?_,hb2⟩
       show w2.ownsRow w.heap.size 119 4 (.slice A' (done++[t]).length c') (done++[t]).length (aHb (done++[t]))
       rw [hl1,aW2];exact hown2
      case measure=>omega
   .have hd0:decide (k<T.size)=false:=by simpa using hlt
    have HE:Hid (done=ts):=by
     have HX:=HR.out
     match gk,HX with
     | 0,HX=>simp [aOf] at HX
     | m+1,HX =>
      rw [show aOf (aA5 T) (m+1) k=if k<(aA5 T).length then (match aV2 (aA5 T) k with | some t=>(match aOf (aA5 T) m (aHx ((aA5 T).drop t.en) t.en) with | some r=>some (t :: r) | none=>none) | none=>none) else some [] from rfl,if_neg (by rw [aAv];exact hlt)] at HX
      obtain ⟨h1,h2⟩:=HX;injection h1 with h1
      subst h1;show done=ts
      simpa using h2
    go_wp2
    go_ret3
    have:=HE.out;subst this;exact ⟨⟨A,c,rfl,HO.out⟩,hbel⟩
 .cases h
def bGs (B:Nat) (w:World) (b o:Nat) (t:Tok):Prop:=b<B/\w.cell? ⟨b,o,none⟩=some (.int .i64 (t.kind:Int))/\w.cell? ⟨b,o+1,none⟩=some (.int .i64 (t.at_:Int))/\w.cell? ⟨b,o+2,none⟩=some (.int .i64 (t.en:Int))/\w.cell? ⟨b,o+3,none⟩=some (.int .i64 (t.num:Int))
def bNe (B:Nat) (w:World) (A:Option Addr) (ts:List Tok):Prop:=aAc 4 (bGs B) w A ts.length ts
theorem bNe.agr {B:Nat} {w w':World} {A:Option Addr} {ts:List Tok} {E:Nat->Prop} (h:bNe B w A ts) (k:Agr E w w') (hE:∀ q,E q->B<=q):bNe B w' A ts :=
 ⟨h.1,fun i x hx=>by
  obtain ⟨b,o,e,hb,h1,h2,h3,h4,h5⟩:=h.2 i x hx
  have hc:∀ o,w'.cell? ⟨b,o,none⟩=w.cell? ⟨b,o,none⟩:=fun o=>by
   unfold World.cell?;rw [k.block b hb (fun hq=>by have:=hE b hq;omega)]
  exact ⟨b,o,e,Nat.lt_of_lt_of_le hb k.size,h1,by rw [hc];exact h2,by rw [hc];exact h3,by rw [hc];exact h4,by rw [hc];exact h5⟩⟩
def bN9 (T:ByteArray) (t:Tok):Prop:=t.at_<=t.en/\t.en<=T.size
structure Rd (w:World) (B:Nat) (T:ByteArray) (A:Option Addr) (c:Nat) (ts:List Tok) (v2 v3 v4 v5 v6:Value):Prop where
 blk:Blk w B #[.string T,.slice A ts.length c,v2,v3,v4,v5,v6] 81
 tok:bNe B w A ts
 cap:ts.length<=c/\c<=maxLen
 few:ts.length<=4000
 ok:∀ t∈ts,bN9 T t
 big:T.size<=16384
def RdX (w:World) (B:Nat) (T:ByteArray) (ts:List Tok) (v2 v3 v4 v5 v6:Value):Prop:=∃ A c,Rd w B T A c ts v2 v3 v4 v5 v6
abbrev But (B:Nat) (w w':World):Prop:=Agr (fun q=>q=B) w w'
theorem But.of_bel {B:Nat} {w w':World} (h:Bel w w'):But B w w':=⟨h.os,h.tape,h.output,h.size,fun k hk _=>h.block k hk⟩
theorem Rd.bel {w w':World} {B:Nat} {T:ByteArray} {A:Option Addr} {c:Nat} {ts:List Tok} {v2 v3 v4 v5 v6:Value} (h:Rd w B T A c ts v2 v3 v4 v5 v6) (k:Bel w w'):Rd w' B T A c ts v2 v3 v4 v5 v6 :=
 ⟨h.blk.keep k,h.tok.agr (E:=fun q=>q=B) (But.of_bel k) (fun q e=>by omega),h.cap,h.few,h.ok,h.big⟩
theorem RdX.bel {w w':World} {B:Nat} {T:ByteArray} {ts:List Tok} {v2 v3 v4 v5 v6:Value} (h:RdX w B T ts v2 v3 v4 v5 v6) (k:Bel w w'):RdX w' B T ts v2 v3 v4 v5 v6:=by
 obtain ⟨A,c,h⟩:=h;exact ⟨A,c,h.bel k⟩
theorem Rd.lt {w:World} {B:Nat} {T:ByteArray} {A:Option Addr} {c:Nat} {ts:List Tok} {v2 v3 v4 v5 v6:Value} (h:Rd w B T A c ts v2 v3 v4 v5 v6):B<w.heap.size:=h.blk.lt
theorem Rd.cells {w:World} {B:Nat} {T:ByteArray} {A:Option Addr} {c:Nat} {ts:List Tok} {v2 v3 v4 v5 v6:Value} (h:Rd w B T A c ts v2 v3 v4 v5 v6) :
  w.cell? ⟨B,0,none⟩=some (.string T)/\w.cell? ⟨B,1,none⟩=some (.slice A ts.length c)/\w.cell? ⟨B,2,none⟩=some v2/\w.frozen? ⟨B,1,none⟩=false:=⟨h.blk.cell 0 rfl,h.blk.cell 1 rfl,h.blk.cell 2 rfl,h.blk.frozen 1⟩
theorem Rd.first {w:World} {B:Nat} {T:ByteArray} {A:Option Addr} {c:Nat} {t:Tok} {r:List Tok} {v2 v3 v4 v5 v6:Value} (h:Rd w B T A c (t :: r) v2 v3 v4 v5 v6) :
  ∃ b o,A=some ⟨b,o,none⟩/\b<B/\w.cell? ⟨b,o,none⟩=some (.int .i64 (t.kind:Int))/\w.cell? ⟨b,o+1,none⟩=some (.int .i64 (t.at_:Int))/\w.cell? ⟨b,o+2,none⟩=some (.int .i64 (t.en:Int))/\w.cell? ⟨b,o+3,none⟩=some (.int .i64 (t.num:Int)):=by
 obtain ⟨b,o,e,_,h1,h2,h3,h4,h5⟩:=h.tok.2 0 t rfl;simp only [Nat.zero_mul,Nat.add_zero] at h2 h3 h4 h5
 exact ⟨b,o,e,h1,h2,h3,h4,h5⟩
theorem aFr {w:World} {B:Nat} {T:ByteArray} {ts:List Tok} {v2 v3 v4 v5 v6:Value} (h:RdX w B T ts v2 v3 v4 v5 v6) :
  Calls prog 105 #[.pointer (some ⟨B,0,none⟩)] w fun e w'=>e = .returned (.int .i64 (aIw ts:Nat))/\w=w':=by
 obtain ⟨A,c,h⟩:=h;obtain ⟨c0,c1,c2,_⟩:=h.cells;have hlt:=h.lt;cases ts with
 | nil =>
  go_enter func105,ntmps105;go_wp2;go_ret;exact ⟨rfl,rfl⟩
 | cons t r =>
  obtain ⟨b,o,rfl,hb,t0,t1,t2,t3⟩:=h.first
  clear h;go_enter func105,ntmps105;go_wp2;go_ret;exact ⟨rfl,rfl⟩
theorem bLb {w:World} {B:Nat} {T:ByteArray} {ts:List Tok} {v2 v3 v4 v5 v6:Value} (h:RdX w B T ts v2 v3 v4 v5 v6) :
  Calls prog 61 #[.pointer (some ⟨B,0,none⟩)] w fun e w'=>e = .returned (.bool ts.isEmpty)/\w=w':=by
 obtain ⟨A,c,h⟩:=h;obtain ⟨c0,c1,c2,_⟩:=h.cells;have hlt:=h.lt;cases ts with
 | nil =>
  go_enter func61,ntmps61;go_wp2;go_ret;exact ⟨rfl,rfl⟩
 | cons t r =>
  clear h;have hl:(((t :: r).length:Int)==0)=false:=by simp;omega
  go_enter func61,ntmps61;go_wp2;go_ret;exact ⟨rfl,rfl⟩
theorem bIz {T:ByteArray} {t:Tok} {r:List Tok}:T.extract t.at_ t.en=ba (aB8 (aA5 T) (t :: r)):=Lib.extract_eq T t.at_ t.en
theorem aBz {w:World} {B:Nat} {T:ByteArray} {ts:List Tok} {v2 v3 v4 v5 v6:Value} (h:RdX w B T ts v2 v3 v4 v5 v6) :
  Calls prog 104 #[.pointer (some ⟨B,0,none⟩)] w fun e w'=>e = .returned (.string (ba (aB8 (aA5 T) ts)))/\Bel w w':=by
 obtain ⟨A,c,h⟩:=h;obtain ⟨c0,c1,c2,_⟩:=h.cells;have hlt:=h.lt;cases ts with
 | nil =>
  go_enter func104,ntmps104;go_wp2;go_ret;exact ⟨rfl,Bel.refl w⟩
 | cons t r =>
  obtain ⟨b,o,rfl,hb,t0,t1,t2,t3⟩:=h.first
  obtain ⟨k1,k2⟩:=h.ok t (by simp)
  have HP:=aA0 (bIz (T:=T) (t:=t) (r:=r));clear h;have d1:decide (t.at_<=t.en)=true:=by simpa using k1
  have d2:decide (t.en<=T.size)=true:=by simpa using k2
  have hl:(((t :: r).length:Int)==0)=false:=by simp;omega
  go_enter func104,ntmps104;go_wp2
  go_quiet (fail)
  go_wp2;go_ret;exact ⟨by rw [<- HP.out];rfl,(Bel.refl w).drewN _⟩
theorem bGc:(prog.info? 119).map (fun i=>(i.zero,i.size,i.bytes))=some (some (.agg #[.int .i64 0,.int .i64 0,.int .i64 0,.int .i64 0]),4,32):=by kernel_rfl
theorem aU4 (w:World) (p:Addr) (v:Value) (cs:Array Value) (t:TypeId) (o:Obj):Blk (((w.setCell p v).alloc (.cells cs t)).alloc o) w.heap.size cs t:=by
 have h:=(Blk.new (w.setCell p v) cs t).alloc o;have e:(w.setCell p v).heap.size=w.heap.size:=by simp
 rwa [e] at h
theorem aEj {w:World} {B:Nat} {T:ByteArray} {t:Tok} {r:List Tok} {v2 v3 v4 v5 v6:Value} (h:RdX w B T (t :: r) v2 v3 v4 v5 v6) :
  Calls prog 107 #[.pointer (some ⟨B,0,none⟩)] w fun e w'=>e = .returned (.agg #[.int .i64 (t.kind:Int),.int .i64 (t.at_:Int),.int .i64 (t.en:Int),.int .i64 (t.num:Int)])/\But B w w'/\RdX w' B T r v2 v3 v4 v5 v6:=by
 obtain ⟨A,c,h⟩:=h;obtain ⟨c0,c1,c2,fz⟩:=h.cells;have hlt:=h.lt;obtain ⟨b,o,rfl,hb,t0,t1,t2,t3⟩:=h.first
 obtain ⟨j0,hj0,hj1,hj2,hj3⟩:=aBq bGc;obtain ⟨A2,hcut,hR⟩:=bJj (P:=prog) underlying73 hj0 hj2 (some ⟨b,o,none⟩) (t :: r).length c 1 (by simp) h.cap.1
 have HR:=aA0 (hR (bGs B) w (t :: r) h.tok);have HH:=aA0 h;clear h hR;have hbw:b<w.heap.size:=by omega
 have hcut2:∀ w,(Instr.slice 73 (.slice (some ⟨b,o,none⟩) (r.length+1) c) (some (.int .i64 1)) none none).run prog w = .ok (.slice A2 r.length (c-1)) w:=fun w=>hcut .i64 w;clear hcut;have hl:(((t :: r).length:Int)==0)=false:=by simp;omega
 go_enter func107,ntmps107;go_wp2;obtain ⟨y0,y1,y2,y3⟩:=aK0 (aU4 w ⟨B,1,none⟩ (.slice A2 r.length (c-1)) #[.int .i64 (t.kind:Int),.int .i64 (t.at_:Int),.int .i64 (t.en:Int),.int .i64 (t.num:Int)] 119 (.cells #[.int .i64 (t.kind:Int),.int .i64 (t.at_:Int),.int .i64 (t.en:Int),.int .i64 (t.num:Int)] 119));refine bodyPost_ret (v := .agg #[.int .i64 (t.kind:Int),.int .i64 (t.at_:Int),.int .i64 (t.en:Int),.int .i64 (t.num:Int)]) (by simp [results,Tryz.results107,go_sem,y0,y1,y2,y3];try go_simp) rfl ?_
 have hag:But B w (w.setCell ⟨B,1,none⟩ (.slice A2 r.length (c-1))):=Agr.setCell (E:=fun q=>q=B) w _ _ rfl;have hbel:=((Bel.refl (w.setCell ⟨B,1,none⟩ (.slice A2 r.length (c-1)))).alloc (.cells #[.int .i64 (t.kind:Int),.int .i64 (t.at_:Int),.int .i64 (t.en:Int),.int .i64 (t.num:Int)] 119)).alloc (.cells #[.int .i64 (t.kind:Int),.int .i64 (t.at_:Int),.int .i64 (t.en:Int),.int .i64 (t.num:Int)] 119);have hall:=hag.trans (But.of_bel hbel);refine ⟨rfl,hall,A2,c-1,(HH.out.blk.set 1 _).keep hbel,?_,?_,?_,fun x hx=>HH.out.ok x (List.mem_cons_of_mem _ hx),HH.out.big⟩
 .exact bNe.agr (show bNe B w A2 r from HR.out) hall (fun q e=>by omega)
 .have:=HH.out.cap;simp at this;omega
 .have:=HH.out.few;simp at this;omega
end Go.Proofs.YtmoebklkkjbigaaGreatDoor

