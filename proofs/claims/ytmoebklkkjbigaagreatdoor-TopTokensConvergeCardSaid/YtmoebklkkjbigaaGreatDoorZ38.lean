/- Merged. -/
import Derived.Test.YtmoebklkkjbigaaGreatDoorZ36
import Derived.Test.YtmoebklkkjbigaaGreatDoorZ02
set_option linter.unusedSimpArgs false
set_option linter.unnecessarySimpa false
set_option linter.unusedVariables false
set_option maxRecDepth 100000

namespace Go.Proofs.YtmoebklkkjbigaaGreatDoor
def tokensP:Prg:=⟨ba [116,111,107,101,110],[⟨ba [120],1,0,0,1,0⟩],
 [⟨ba [116,117,114,110],[⟨41,0⟩,⟨10,0⟩,⟨35,0⟩,⟨5,0⟩,⟨29,0⟩,⟨12,0⟩],[⟨0,[⟨32,0⟩,⟨33,0⟩,⟨5,0⟩,⟨1,1⟩,⟨33,0⟩,⟨6,0⟩,⟨1,1⟩]⟩]⟩,
  ⟨ba [99,111,112,121],[⟨41,0⟩,⟨19,0⟩,⟨10,0⟩,⟨36,0⟩,⟨5,0⟩,⟨29,0⟩,⟨12,0⟩],[⟨0,[⟨29,0⟩,⟨12,0⟩]⟩]⟩]⟩
theorem bN5:prK=tokensP:=by kernel_rfl
def bBe (n v:Nat):List Link:=[⟨(((v+n-1) % n:Nat):Int),1⟩,⟨(((v+1) % n:Nat):Int),1⟩]
def aBe (n:Nat):Graph:=⟨(List.range n).map fun j:Nat=>(j:Int),(List.range n).map (bBe n)⟩
theorem aT8 {n v:Nat} (h:v<n):(aBe n).ports.getD v []=bBe n v:=by simp [aBe,List.getD_eq_getElem?_getD,h]
theorem aVn (n:Nat):(aBe n).ids.length=n:=by simp [aBe]
theorem aF7 (n:Nat):(aBe n).ports.length=n:=by simp [aBe]
theorem aZ2:aCw tokensP (aBe 3)=0:=by decide +kernel
theorem aZ3:aCw tokensP (aBe 4)=0:=by decide +kernel
theorem bBf:aBt (aBe 3)=true:=by decide +kernel
theorem bBg:aBt (aBe 4)=true:=by decide +kernel
theorem aTn (g:Graph) (v:Nat):aJ3 tokensP g v=[(0,(g.ids.length:Int))]:=by
 show [aAw _ g v]=_
 unfold aAw;rw [if_neg (by decide),if_neg (by decide)]
 congr 2
 show (0:Int)+1*(g.ids.length:Int)+0*aFc g.ids=_
 omega
theorem aQp {g:Graph} {n v:Nat} (c:aA3) (hv:v<n) (hg:g=aBe n):aIv 29 ((List.range (g.ports.getD v []).length).map fun (k:Nat)=>aBd g c v (k:Int) (.leaf ⟨12,0⟩))=aDc c ((v+n-1) % n):=by
 subst hg;rw [aT8 hv];show aDc c (((aBe n).ports.getD v []).getD 0 default).to.toNat=_
 rw [aT8 hv];rfl
theorem aZ4 {n v:Nat} (c:aA3) (hv:v<n):aEu (aBe n) c v [⟨41,0⟩,⟨10,0⟩,⟨35,0⟩,⟨5,0⟩,⟨29,0⟩,⟨12,0⟩]=(decide (v=0)&&aDc c v==aDc c ((v+n-1) % n)):=by
 show (aBm 41 (aB6 (decide (v=0))) (aBm 35 (aDc c v) (aIv 29 ((List.range ((aBe n).ports.getD v []).length).map fun (k:Nat)=>aBd (aBe n) c v (k:Int) (.leaf ⟨12,0⟩)))) != 0)=_
 rw [aQp c hv rfl,aU3,bP8,aCp,aCp,aCp]
theorem aZ5 {n v:Nat} (c:aA3) (hv:v<n):aEu (aBe n) c v [⟨41,0⟩,⟨19,0⟩,⟨10,0⟩,⟨36,0⟩,⟨5,0⟩,⟨29,0⟩,⟨12,0⟩]=(!decide (v=0)&&aDc c v != aDc c ((v+n-1) % n)):=by
 show (aBm 41 (aIt 19 (aB6 (decide (v=0)))) (aBm 36 (aDc c v) (aIv 29 ((List.range ((aBe n).ports.getD v []).length).map fun (k:Nat)=>aBd (aBe n) c v (k:Int) (.leaf ⟨12,0⟩)))) != 0)=_
 rw [aQp c hv rfl,aU3,bP9,bK6,aCp,aCp,aCp,aTo]
def bOy (n:Nat) (c:aA3) (v:Nat):Bool:=if v=0 then aDc c v==aDc c ((v+n-1) % n) else aDc c v != aDc c ((v+n-1) % n)
theorem aP6 {n v:Nat} (c:aA3) (hv:v<n):aAm tokensP.rules (aBe n) c v=if bOy n c v then (if v=0 then 0 else 1) else -1:=by
 show aAm [_,_] (aBe n) c v=_
 rw [aXf];dsimp only;rw [aZ4 c hv,aZ5 c hv];unfold bOy
 by_cases h0:v=0
 .subst h0;simp
 .simp [h0]
theorem aF9 {n v:Nat} (c:aA3) (hv:v<n):0<=aAm tokensP.rules (aBe n) c v↔bOy n c v=true:=by
 rw [aP6 c hv];cases bOy n c v
 .simp
 .by_cases h0:v=0 <;> simp [h0]
theorem aOm {n:Nat} (hn:n<=4) {c:aA3} (hm:aC4 tokensP (aBe n) c=0) {v:Nat} (hv:v<n):c.getD v []=[aDc c v]/\0<=aDc c v/\aDc c v<=(n:Int):=by
 have hl:=aBx hm;rw [aF7] at hl;obtain ⟨h1,h2,h3⟩:=aYl hm rfl (show v<c.length by omega)
 have hr:=aTn (aBe n) v
 have hb:aAw ⟨ba [120],1,0,0,1,0⟩ (aBe n) v=(0,(n:Int)):=by
  have:aAw ⟨ba [120],1,0,0,1,0⟩ (aBe n) v=(0,((aBe n).ids.length:Int)):=(List.cons.inj hr).1;rw [this,aVn]
 rw [hb] at h2 h3;exact ⟨h1,h2,h3⟩
theorem aNa (n v:Nat):aAw (bGh tokensP 0) (aBe n) v=(0,(n:Int)):=by
 have hr:=aTn (aBe n) v;rw [aVn] at hr;exact (List.cons.inj hr).1
theorem bIb:∀ a:Nat,a<6->∀ n:Nat,n<6->aBm 32 (aBm 33 (a:Int) 1) (aBm 33 (n:Int) 1)=(((a+1) % (n+1):Nat):Int):=by decide +kernel
theorem bBq {n:Nat} (hn:n<=4) {c:aA3} (hm:aC4 tokensP (aBe n) c=0) {v:Nat} (hv:v<n) (he:bOy n c v=true):(aHh tokensP (aBe n) c v).getD 0 0=if v=0 then ((((aDc c v).toNat+1) % (n+1):Nat):Int) else aDc c ((v+n-1) % n):=by
 obtain ⟨h1,h2,h3⟩:=aOm hn hm hv;have hf:=aP6 c hv;rw [he,if_pos rfl] at hf
 by_cases h0:v=0
 .rw [if_pos h0] at hf ⊢
  rw [aPs (k:=0) (e:=[⟨32,0⟩,⟨33,0⟩,⟨5,0⟩,⟨1,1⟩,⟨33,0⟩,⟨6,0⟩,⟨1,1⟩]) (y:=aDc c v) hf rfl rfl h1];rw [List.getD_cons_zero];unfold aJv;rw [show (⟨0,[⟨32,0⟩,⟨33,0⟩,⟨5,0⟩,⟨1,1⟩,⟨33,0⟩,⟨6,0⟩,⟨1,1⟩]⟩:SetT).var=0 from rfl,aNa]
  have hx:aBd (aBe n) c v (-1) (aB9 [⟨32,0⟩,⟨33,0⟩,⟨5,0⟩,⟨1,1⟩,⟨33,0⟩,⟨6,0⟩,⟨1,1⟩])=aBm 32 (aBm 33 (aDc c v) 1) (aBm 33 ((aBe n).ids.length:Int) 1):=rfl;rw [aVn] at hx;obtain ⟨a,ha⟩:=Int.eq_ofNat_of_zero_le h2;rw [ha] at hx h3 ⊢;rw [bIb a (by omega) n (by omega)] at hx
  have hlt:=Nat.mod_lt (a+1) (show 0<n+1 by omega)
  show aIq _ _ (aBd (aBe n) c v (-1) (aB9 [⟨32,0⟩,⟨33,0⟩,⟨5,0⟩,⟨1,1⟩,⟨33,0⟩,⟨6,0⟩,⟨1,1⟩]))=_
  rw [hx];unfold aIq;rw [if_pos (by dsimp only;omega),Int.toNat_natCast]
 .rw [if_neg h0] at hf ⊢
  rw [aPs (k:=1) (e:=[⟨29,0⟩,⟨12,0⟩]) (y:=aDc c v) hf rfl rfl h1];rw [List.getD_cons_zero];unfold aJv;rw [show (⟨0,[⟨29,0⟩,⟨12,0⟩]⟩:SetT).var=0 from rfl,aNa]
  have hx:aBd (aBe n) c v (-1) (aB9 [⟨29,0⟩,⟨12,0⟩])=aIv 29 ((List.range ((aBe n).ports.getD v []).length).map fun (k:Nat)=>aBd (aBe n) c v (k:Int) (.leaf ⟨12,0⟩)):=rfl;rw [aQp c hv rfl] at hx;obtain ⟨_,g2,g3⟩:=aOm hn hm (Nat.mod_lt (v+n-1) (show 0<n by omega))
  show aIq _ _ (aBd (aBe n) c v (-1) (aB9 [⟨29,0⟩,⟨12,0⟩]))=_
  rw [hx];unfold aIq;rw [if_pos ⟨g2,g3⟩]
end Go.Proofs.YtmoebklkkjbigaaGreatDoor

