/- Merged. -/
import Derived.Test.YtdcjnhoabbdanaaGreatDoorZ24
set_option linter.unusedSimpArgs false
set_option linter.unnecessarySimpa false
set_option linter.unusedVariables false
set_option maxRecDepth 100000

namespace Go.Proofs.YtdcjnhoabbdanaaGreatDoor
def aF4 (p:Prg) (g:Graph) (kind:Int):Trc->List Nat->List Trc
 | t,[]=>[t]
 | t,W :: l=>t :: if aAk p g t.last=0 then [] else aF4 p g kind (aCk p g t (aAl g kind (aAk p g t.last) W)) l
theorem aL0 {p:Prg} {g:Graph} {kind:Int} (hg:GOK g) (hk:aDk kind=true):∀ (ws:List Nat) (t:Trc),OkT p g t ->
  ∃ l,(aDm p g kind t ws).chosen=t.chosen++l/\(aF4 p g kind t ws).length=l.length+1/\(aF4 p g kind t ws).getLast?=some (aDm p g kind t ws)/\(∀ k,k<=l.length->aCh p g kind t (l.take k)=(aF4 p g kind t ws)[k]?)
 | [],t,h=>⟨[],by simp [aDm],rfl,rfl,fun k hk=>by
   have:k=0:=by simpa using hk
   subst this;rfl⟩
 | W :: ws,t,h=>by
  unfold aDm aF4
  by_cases h0:aAk p g t.last=0
  .rw [if_pos h0,if_pos h0]
   exact ⟨[],by simp,rfl,rfl,fun k hk=>by
    have:k=0:=by simpa using hk
    subst this;rfl⟩
  .rw [if_neg h0,if_neg h0]
   obtain ⟨r1,r2⟩:=aK6 hg hk (W:=W) (aFa h.mem) h0;obtain ⟨l,l1,l2,l3,l4⟩:=aL0 hg hk ws _ (h.next r2 r1);refine ⟨aAl g kind (aAk p g t.last) W :: l,by rw [l1];simp [aCk],by simp [l2],?_,fun k hk=>?_⟩
   .rw [List.getLast?_cons,l3];rfl
   .cases k with
    | zero=>rfl
    | succ k =>
     rw [List.take_succ_cons,List.getElem?_cons_succ,<- l4 k (by simpa using hk)]
     show (if aAn g kind (aAk p g t.last) _=true then _ else none)=_
     rw [if_pos r1]
def aNc (p:Prg) (g:Graph) (kind:Int) (ch:Nat->Nat->Nat) (gs:Nat->Nat->Bool):Nat->Nat->Trc->List Trc
 | 0,_,t=>[t]
 | n+1,i,t=>t :: (if gs i (aAk p g t.last)=true/\aAn g kind (aAk p g t.last) (ch i (aAk p g t.last))=true then aNc p g kind ch gs n (i+1) (aCk p g t (ch i (aAk p g t.last))) else [])
def aIb (p:Prg) (g:Graph) (kind:Int) (ch:Nat->Nat->Nat) (gs:Nat->Nat->Bool):Nat->Nat->Trc->Option Trc
 | 0,_,t=>some t
 | n+1,i,t=>if gs i (aAk p g t.last)=true then if aAn g kind (aAk p g t.last) (ch i (aAk p g t.last))=true then aIb p g kind ch gs n (i+1) (aCk p g t (ch i (aAk p g t.last))) else none else some t
variable {p:Prg} {g:Graph} {kind:Int} {ch:Nat->Nat->Nat} {gs:Nat->Nat->Bool}
theorem aQm {n i:Nat} {t:Trc} (h:gs i (aAk p g t.last)=false):aIb p g kind ch gs (n+1) i t=some t/\aNc p g kind ch gs (n+1) i t=[t]:=by
 unfold aIb aNc;rw [h];simp
theorem aYk {n i:Nat} {t:Trc} (h:gs i (aAk p g t.last)=true) (h2:aAn g kind (aAk p g t.last) (ch i (aAk p g t.last))=false):aIb p g kind ch gs (n+1) i t=none/\aNc p g kind ch gs (n+1) i t=[t]:=by
 unfold aIb aNc;rw [h,h2];simp
theorem aWk {n i:Nat} {t:Trc} (h:gs i (aAk p g t.last)=true) (h2:aAn g kind (aAk p g t.last) (ch i (aAk p g t.last))=true) :
  aIb p g kind ch gs (n+1) i t=aIb p g kind ch gs n (i+1) (aCk p g t (ch i (aAk p g t.last)))/\aNc p g kind ch gs (n+1) i t=t :: aNc p g kind ch gs n (i+1) (aCk p g t (ch i (aAk p g t.last))):=by
 constructor
 .conv=>lhs;unfold aIb
  rw [if_pos h,if_pos h2]
 .conv=>lhs;unfold aNc
  rw [if_pos ⟨h,h2⟩]
theorem aQl (l:List Nat):∀ (n i:Nat) (t:Trc),i+n=l.length->aIb p g kind (fun i _=>l.getD i 0) (fun _ _=>true) n i t=aCh p g kind t (l.drop i)
 | 0,i,t,h=>by
  rw [List.drop_of_length_le (by omega)];rfl
 | n+1,i,t,h=>by
  have hi:i<l.length:=by omega
  rw [List.drop_eq_getElem_cons hi];unfold aIb aCh;rw [if_pos rfl,aA8 hi]
  by_cases hp:aAn g kind (aAk p g t.last) l[i]=true
  .rw [if_pos hp,if_pos hp]
   exact aQl l n (i+1) _ (by omega)
  .rw [if_neg hp,if_neg hp]
theorem aMr (hg:GOK g) (hk:aDk kind=true) (ws:List Nat):∀ (n i:Nat) (t:Trc),OkT p g t->i+n=ws.length ->
  aIb p g kind (fun i E=>aAl g kind E (ws.getD i 0)) (fun _ E=>decide (E≠0)) n i t=some (aDm p g kind t (ws.drop i)) /\
   aNc p g kind (fun i E=>aAl g kind E (ws.getD i 0)) (fun _ E=>decide (E≠0)) n i t=aF4 p g kind t (ws.drop i)
 | 0,i,t,ht,h=>by
  rw [List.drop_of_length_le (by omega)];exact ⟨rfl,rfl⟩
 | n+1,i,t,ht,h=>by
  have hi:i<ws.length:=by omega
  rw [List.drop_eq_getElem_cons hi];unfold aDm aF4
  by_cases h0:aAk p g t.last=0
  .rw [if_pos h0,if_pos h0]
   exact aQm (by simpa using h0)
  .rw [if_neg h0,if_neg h0]
   obtain ⟨r1,r2⟩:=aK6 hg hk (W:=ws.getD i 0) (aFa ht.mem) h0;obtain ⟨q1,q2⟩:=aMr hg hk ws n (i+1) _ (ht.next r2 r1) (by omega)
   obtain ⟨e1,e2⟩:=aWk (p:=p) (g:=g) (kind:=kind) (ch:=fun i E=>aAl g kind E (ws.getD i 0)) (gs:=fun _ E=>decide (E≠0)) (n:=n) (i:=i) (t:=t) (by simpa using h0) r1
   rw [e1,e2,q1,q2,aA8 hi];exact ⟨rfl,rfl⟩
end Go.Proofs.YtdcjnhoabbdanaaGreatDoor

