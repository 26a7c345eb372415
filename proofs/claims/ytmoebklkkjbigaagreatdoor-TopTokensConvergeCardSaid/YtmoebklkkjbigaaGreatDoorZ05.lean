/- Merged. -/
import Derived.Test.YtmoebklkkjbigaaGreatDoorZ04
import Derived.Maps.Own
import Derived.Maps.OwnOps
import Derived.Maps.OwnSet
import Derived.Maps.Views
import Derived.WideKeyArr
import Derived.Maps.RangeWalk
import Derived.Deep.RegionHeld3
import Derived.Deep.WholeRow
import Derived.Laws.OwnMore
import Derived.Laws.CopyOwn
import Derived.Deep.RegionHeld
import Derived.ProofKit
import Derived.OpenShut
import Derived.Deep.Slices
import Derived.Deep.Fields
import Derived.ChangeSame
import Derived.Carry
set_option linter.unusedSimpArgs false
set_option linter.unnecessarySimpa false
set_option linter.unusedVariables false
set_option maxRecDepth 100000
set_option maxHeartbeats 2000000
open Go.Proofs.Tryz

namespace Go.Proofs.YtmoebklkkjbigaaGreatDoor
theorem aGm (x y a b:Nat) (ha:a<2) (hb:b<2):(2*x+a)&&&(2*y+b)=2*(x&&&y)+a*b:=by
 have hab:a*b<2:=by
  have h1:a=0∨a=1:=by omega
  rcases h1 with rfl | rfl <;> omega
 refine Nat.eq_of_testBit_eq fun i=>?_
 rw [Nat.testBit_and];cases i with
 | zero =>
  have h1:a=0∨a=1:=by omega
  have h2:b=0∨b=1:=by omega
  rcases h1 with rfl | rfl <;> rcases h2 with rfl | rfl <;> simp [Nat.testBit_zero] <;> omega
 | succ i =>
  rw [Nat.testBit_succ,Nat.testBit_succ,Nat.testBit_succ,show (2*x+a) / 2=x by omega,show (2*y+b) / 2=y by omega,show (2*(x&&&y)+a*b) / 2=x&&&y by omega,Nat.testBit_and]
def aGd (w S s:Nat):Nat:=(s+(2 ^ w-S)) % 2 ^ w&&&S
theorem aRv (n:Nat):∃ x a,a<2/\n=2*x+a:=⟨n / 2,n % 2,Nat.mod_lt _ (by decide),by omega⟩
theorem aVd {x y a b:Nat} (ha:a<2) (hb:b<2) (h:(2*x+a)&&&(2*y+b)=2*x+a):x&&&y=x/\a<=b:=by
 rw [aGm x y a b ha hb] at h;have h1:a=0∨a=1:=by omega
 have h2:b=0∨b=1:=by omega
 rcases h1 with rfl | rfl <;> rcases h2 with rfl | rfl <;> omega
theorem bEa (w:Nat):∀ S s,S<2 ^ w->s&&&S=s->(s+(2 ^ w-1-S))&&&S=s:=by
 induction w with
 | zero => intro S s h hs; have : S = 0 := by simpa using h
           subst this;simpa using hs
 | succ w ih =>
  intro S s h hs
  obtain ⟨y,b,hb,rfl⟩:=aRv S;obtain ⟨x,a,ha,rfl⟩:=aRv s;obtain ⟨hxy,hab⟩:=aVd ha hb hs;have hp:2 ^ (w+1)=2*2 ^ w:=by rw [Nat.pow_succ];omega
  have hy:y<2 ^ w:=by omega
  have e:2*x+a+(2 ^ (w+1)-1-(2*y+b))=2*(x+(2 ^ w-1-y))+(a+1-b):=by omega
  rw [e,aGm _ _ _ _ (by omega) hb,ih y x hy hxy]
  have h1:a=0∨a=1:=by omega
  have h2:b=0∨b=1:=by omega
  rcases h1 with rfl | rfl <;> rcases h2 with rfl | rfl <;> omega
theorem aCt {s S:Nat} (h:s&&&S=s):s<=S:=by rw [<- h];exact Nat.and_le_right
theorem aGk (w S:Nat) (h:S<2 ^ w):aGd w S S=0:=by
 unfold aGd;rw [show S+(2 ^ w-S)=2 ^ w by omega,Nat.mod_self,Nat.zero_and]
theorem aGl (w:Nat):∀ S s,S<2 ^ w->s&&&S=s->s≠S ->
  s<aGd w S s/\aGd w S s&&&S=aGd w S s/\∀ t,t&&&S=t->s<t->aGd w S s<=t:=by
 induction w with
 | zero =>
  intro S s h hs hne
  have:S=0:=by simpa using h
  have:=aCt hs;omega
 | succ w ih =>
  intro S s h hs hne
  obtain ⟨y,b,hb,rfl⟩:=aRv S;obtain ⟨x,a,ha,rfl⟩:=aRv s;obtain ⟨hxy,hab⟩:=aVd ha hb hs;have hp:2 ^ (w+1)=2*2 ^ w:=by rw [Nat.pow_succ];omega
  have hy:y<2 ^ w:=by omega
  have hle:=aCt hxy
  by_cases hc:a=0/\b=1
  .obtain ⟨rfl,rfl⟩:=hc
   have e:aGd (w+1) (2*y+1) (2*x+0)=2*x+1:=by
    unfold aGd;rw [Nat.mod_eq_of_lt (by omega),show 2*x+0+(2 ^ (w+1)-(2*y+1))=2*(x+(2 ^ w-1-y))+1 by omega,aGm _ _ _ _ (by omega) (by omega),bEa w y x hy hxy]
   rw [e];exact ⟨by omega,by rw [aGm _ _ _ _ (by omega) (by omega),hxy],fun t _ ht=>by omega⟩
  .have hab':a=b:=by omega
   subst hab';have hne':x≠y:=fun e=>hne (by rw [e])
   have e:aGd (w+1) (2*y+a) (2*x+a)=2*aGd w y x:=by
    unfold aGd
    rw [show 2*x+a+(2 ^ (w+1)-(2*y+a))=2*(x+(2 ^ w-y)) by omega,hp,Nat.mul_mod_mul_left,
     show 2*((x+(2 ^ w-y)) % 2 ^ w)=2*((x+(2 ^ w-y)) % 2 ^ w)+0 by omega,aGm _ _ _ _ (by omega) ha]
    omega
   obtain ⟨h1,h2,h3⟩:=ih y x hy hxy hne';rw [e];refine ⟨by omega,?_,fun t ht hlt=>?_⟩
   .rw [show 2*aGd w y x=2*aGd w y x+0 by omega,aGm _ _ _ _ (by omega) ha,h2];omega
   .obtain ⟨u,c,hcc,rfl⟩:=aRv t
    obtain ⟨hu,hca⟩:=aVd hcc ha ht;have:=h3 u hu (by omega)
    omega
def aJo (S:Nat):Nat->Nat->List Nat
 | 0,_=>[]
 | f+1,s=>if s=0 then [] else s :: aJo S f (aGd 32 S s)
theorem bB6 {S:Nat} (hS:S<2 ^ 32):∀ f g s,s&&&S=s->S<f+s->S<g+s->aJo S f s=aJo S g s:=by
 intro f
 induction f with
 | zero=>intro g s hs hf _;have:=aCt hs;omega
 | succ f ih =>
  intro g s hs hf hg
  cases g with
  | zero=>have:=aCt hs;omega
  | succ g =>
   unfold aJo
   by_cases h0:s=0
   .rw [if_pos h0,if_pos h0]
   .rw [if_neg h0,if_neg h0]
    by_cases hl:s=S
    .subst hl
     rw [aGk 32 s hS];cases f <;> cases g <;> simp [aJo]
    .obtain ⟨h1,h2,_⟩:=aGl 32 S s hS hs hl
     rw [ih g _ h2 (by omega) (by omega)]
theorem bB7 (S f s:Nat):aJo S (f+1) s=if s=0 then [] else s :: aJo S f (aGd 32 S s):=rfl
def aBc (S s:Nat):List Nat:=aJo S (S+1) s
theorem aDk (S:Nat):aBc S 0=[]:=by unfold aBc aJo;rw [if_pos rfl]
theorem aFs {S s:Nat} (hS:S<2 ^ 32) (hs:s&&&S=s) (h0:s≠0):aBc S s=s :: aBc S (aGd 32 S s):=by
 have e:aBc S s=s :: aJo S S (aGd 32 S s):=by unfold aBc;rw [bB7,if_neg h0]
 rw [e]
 by_cases hl:s=S
 .subst hl
  rw [aGk 32 s hS,aDk];cases s <;> simp [aJo]
 .obtain ⟨h1,h2,_⟩:=aGl 32 S s hS hs hl
  unfold aBc;rw [bB6 hS S (S+1) _ h2 (by omega) (by omega)]
theorem aId {S:Nat} (hS:S<2 ^ 32):∀ n s,S-s<n->s&&&S=s->s≠0->∀ t,t∈aBc S s↔s<=t/\t&&&S=t:=by
 intro n
 induction n with
 | zero=>intro s h;omega
 | succ n ih =>
  intro s hn hs h0 t
  rw [aFs hS hs h0,List.mem_cons]
  by_cases hl:s=S
  .subst hl
   rw [aGk 32 s hS,aDk];constructor
   .rintro (rfl | h)
    .exact ⟨Nat.le_refl _,hs⟩
    .cases h
   .rintro ⟨h1,h2⟩
    exact .inl (Nat.le_antisymm (aCt h2) h1)
  .obtain ⟨h1,h2,h3⟩:=aGl 32 S s hS hs hl
   have hle:=aCt h2;rw [ih _ (by omega) h2 (by omega) t]
   constructor
   .rintro (rfl | ⟨ha,hb⟩)
    .exact ⟨Nat.le_refl _,hs⟩
    .exact ⟨by omega,hb⟩
   .rintro ⟨ha,hb⟩
    rcases Nat.eq_or_lt_of_le ha with rfl | hlt
    .exact .inl rfl
    .exact .inr ⟨h3 t hb hlt,hb⟩
theorem aPf {S:Nat} (hS:S<2 ^ 32):∀ n s,S-s<n->s&&&S=s->(aBc S s).Pairwise (· < ·):=by
 intro n
 induction n with
 | zero=>intro s h;omega
 | succ n ih =>
  intro s hn hs
  by_cases h0:s=0
  .subst h0;rw [aDk];exact .nil
  .rw [aFs hS hs h0]
   by_cases hl:s=S
   .subst hl;rw [aGk 32 s hS,aDk];exact .cons (fun _ h=>by cases h) .nil
   .obtain ⟨h1,h2,_⟩:=aGl 32 S s hS hs hl
    have hle:=aCt h2;refine .cons (fun t ht=>?_) (ih _ (by omega) h2)
    have:=((aId hS n _ (by omega) h2 (by omega) t).1 ht).1
    omega
def wOf (ls:List Link) (b:Int):Int:=match ls.find? (fun l=>l.to==b) with | some l=>l.weight | none=>0
def mOf (ports:List (List Link)) (v j:Nat) (a b:Int):Int :=
 if 0<=a/\a<(v:Int) then wOf (ports.getD a.toNat []) b else if a=(v:Int) then wOf ((ports.getD v []).take j) b else 0
def bMq (ports:List (List Link)):Bool :=
 (List.range ports.length).all (fun v=>aD8 ports.length v (ports.getD v []))&&(List.range ports.length).all (fun v=>(ports.getD v []).all (aGz ⟨[],ports⟩ v))
structure SymOK (ports:List (List Link)):Prop where
 links:∀ v,(h:v<ports.length)->aD8 ports.length v ports[v]=true
 back:∀ v,(h:v<ports.length)->∀ l∈ports[v],aGz ⟨[],ports⟩ v l=true
theorem bDo (ports:List (List Link)):bMq ports=true↔SymOK ports:=by
 unfold bMq;simp only [Bool.and_eq_true,List.all_eq_true,List.mem_range]
 constructor
 .rintro ⟨h6,h7⟩
  exact ⟨fun v hv=>by have:=h6 v hv;rwa [aA8 hv] at this,fun v hv l hl=>by have:=h7 v hv;rw [aA8 hv] at this;exact this l hl⟩
 .rintro ⟨h6,h7⟩
  exact ⟨fun v hv=>by rw [aA8 hv];exact h6 v hv,fun v hv=>by rw [aA8 hv];exact h7 v hv⟩
theorem aOl {ports:List (List Link)} (h:¬ SymOK ports):bMq ports=false:=by
 rw [Bool.eq_false_iff];intro hb;exact h ((bDo ports).1 hb)
theorem bEu (g:Graph):aG5 g=(decide (1<=g.ports.length/\g.ports.length<=24/\g.ids.length=g.ports.length)&&aS9 g.ids&&bMq g.ports):=by
 unfold aG5 bMq;have:∀ v,aGz g v=aGz ⟨[],g.ports⟩ v:=fun v=>rfl;simp only [this,Bool.and_assoc]
theorem bOs {ls:List Link} {b:Int} (hw:∀ l∈ls,1<=l.weight) (h:wOf ls b=0):∀ l∈ls,l.to≠b:=by
 unfold wOf at h;cases hf:ls.find? (fun l=>l.to==b) with
 | none =>
  rw [List.find?_eq_none] at hf;intro l hl;simpa using hf l hl
 | some l =>
  rw [hf] at h;simp only [] at h
  have:=hw l (List.mem_of_find?_eq_some hf);omega
theorem aQ0 {ls:List Link} {b:Int} (h:wOf ls b≠0):∃ l∈ls,l.to=b/\wOf ls b=l.weight:=by
 unfold wOf at *;cases hf:ls.find? (fun l=>l.to==b) with
 | none=>rw [hf] at h;exact absurd rfl h
 | some l=>exact ⟨l,List.mem_of_find?_eq_some hf,by simpa using List.find?_some hf,rfl⟩
theorem aTp {ls:List Link} (hn:(ls.map Link.to).Nodup) {l:Link} (hl:l∈ls):wOf ls l.to=l.weight:=by
 unfold wOf;cases hf:ls.find? (fun k=>k.to==l.to) with
 | none =>
  rw [List.find?_eq_none] at hf;have:=hf l hl;simp at this
 | some k =>
  have h1:k.to=l.to:=by simpa using List.find?_some hf
  have h2:=List.mem_of_find?_eq_some hf;obtain ⟨i,hi,rfl⟩:=List.getElem_of_mem hl;obtain ⟨j,hj,rfl⟩:=List.getElem_of_mem h2
  have:i=j:=by
   rcases Nat.lt_trichotomy i j with h | h | h
   .exact absurd hn (aFw h (by simpa using hj) (by simp [h1]))
   .exact h
   .exact absurd hn (aFw h (by simpa using hi) (by simp [h1]))
  subst this;rfl
theorem bMu {ls:List Link} {j:Nat} (h:j<ls.length) (hno:∀ l∈ls.take j,l.to≠ls[j].to) (b:Int):wOf (ls.take (j+1)) b=if b=ls[j].to then ls[j].weight else wOf (ls.take j) b:=by
 unfold wOf;rw [List.take_succ_eq_append_getElem h,List.find?_append]
 by_cases hb:b=ls[j].to
 .subst hb
  have:(ls.take j).find? (fun l=>l.to==ls[j].to)=none:=by
   rw [List.find?_eq_none];intro l hl;simpa using hno l hl
  rw [this,if_pos rfl];simp
 .rw [if_neg hb]
  cases hf:(ls.take j).find? (fun l=>l.to==b) with
  | some l=>simp
  | none =>
   have:(ls[j].to==b)=false:=by simp;exact fun h=>hb h.symm
   simp [this]
theorem bLr {ports:List (List Link)} {v j:Nat} (hv:v<ports.length) (hj:j<ports[v].length) (hno:∀ l∈ports[v].take j,l.to≠ports[v][j].to) (a b:Int) :
  mOf ports v (j+1) a b=if a=(v:Int)/\b=ports[v][j].to then ports[v][j].weight else mOf ports v j a b:=by
 unfold mOf;rw [aA8 hv]
 by_cases ha:a=(v:Int)
 .subst ha
  have hn:¬ (0<=(v:Int)/\(v:Int)<(v:Int)):=by omega
  simp only [if_neg hn,if_pos,true_and]
  rw [bMu hj hno]
 .rw [if_neg (c:=a=(v:Int)/\_) (fun h=>ha h.1)]
  simp only [if_neg ha]
theorem bO5 {ports:List (List Link)} {v j:Nat} (hv:v<ports.length) (hj:ports[v].length<=j) (a b:Int):mOf ports v j a b=mOf ports (v+1) 0 a b:=by
 unfold mOf;rw [aA8 hv,List.take_of_length_le hj]
 by_cases ha:a=(v:Int)
 .subst ha
  rw [if_neg (by omega),if_pos rfl,if_pos (by omega),Int.toNat_natCast,aA8 hv]
 .by_cases h1:0<=a/\a<(v:Int)
  .rw [if_pos h1,if_pos (by omega)]
  .rw [if_neg h1,if_neg ha,if_neg (by omega)]
   split
   .simp [wOf]
   .rfl
theorem bI7 (ports:List (List Link)) (a b:Int):mOf ports 0 0 a b=0:=by
 unfold mOf;rw [if_neg (by omega)]
 split
 .simp [wOf]
 .rfl
theorem aY1 {ports:List (List Link)} {n v j:Nat} (h:v<ports.length) (hn:v<n) (b:Int):mOf ports n j (v:Int) b=wOf ports[v] b:=by
 unfold mOf;rw [if_pos (by omega),Int.toNat_natCast,aA8 h]
theorem bI6 {ports:List (List Link)} {n:Nat} {a b:Int} (h:mOf ports n 0 a b≠0):0<=a/\a<(n:Int):=by
 unfold mOf at h;split at h
 .assumption
 .split at h
  .simp [wOf] at h
  .exact absurd rfl h
theorem bG9 {ports:List (List Link)} (hl:∀ v,(h:v<ports.length)->aD8 ports.length v ports[v]=true):SymOK ports↔∀ a b,mOf ports ports.length 0 a b≠0->mOf ports ports.length 0 b a=mOf ports ports.length 0 a b:=by
 constructor
 .intro hs a b hne
  obtain ⟨h0,h1⟩:=bI6 hne;obtain ⟨v,rfl⟩:=Int.eq_ofNat_of_zero_le h0;have hv:v<ports.length:=by omega
  rw [aY1 hv hv] at hne ⊢;obtain ⟨l,hlm,rfl,he⟩:=aQ0 hne;rw [he];obtain ⟨k1,k2⟩:=aBa.1 (hl v hv);obtain ⟨t0,t1,_⟩:=aBg.1 (k1 l hlm);obtain ⟨t,ht⟩:=Int.eq_ofNat_of_zero_le t0;have htl:t<ports.length:=by omega
  have hb:=hs.back v hv l hlm;unfold aGz at hb;simp only [] at hb
  rw [ht,Int.toNat_natCast,aA8 htl,List.any_eq_true] at hb;obtain ⟨k,hk,hkk⟩:=hb;simp at hkk
  rw [ht,aY1 htl htl];have hu:=aTp (aBa.1 (hl t htl)).2 hk;rw [hkk.1] at hu;rw [hu,hkk.2]
 .intro h
  refine ⟨hl,fun v hv l hlm=>?_⟩
  obtain ⟨k1,k2⟩:=aBa.1 (hl v hv);obtain ⟨t0,t1,_,t3,_⟩:=aBg.1 (k1 l hlm);obtain ⟨t,ht⟩:=Int.eq_ofNat_of_zero_le t0;have htl:t<ports.length:=by omega
  have hw:=aTp k2 hlm;have h1:mOf ports ports.length 0 (v:Int) l.to=l.weight:=by rw [aY1 hv hv,hw]
  have h2:=h (v:Int) l.to (by rw [h1];omega)
  rw [h1,ht,aY1 htl htl] at h2;obtain ⟨k,hk,hk1,hk2⟩:=aQ0 (ls:=ports[t]) (b:=(v:Int)) (by omega)
  unfold aGz;simp only []
  rw [ht,Int.toNat_natCast,aA8 htl,List.any_eq_true];exact ⟨k,hk,by simp [hk1];omega⟩
open Go.RowKit Go.Maps
def aM0 (P:Program) (k e:TypeId) (w:World) (b n:Nat) (ks:List Lit):Prop :=
 ∃ D:DataW Unit,w.ownsMap P k (plainElem P e) b n D/\IsMap D/\∀ kl,∃ x,D.atKey kl (.lit (.bool false)) = .lit (.bool x)/\(x=true↔kl∈ks)
theorem aM0.made (P:Program) (k e:TypeId) (w:World):aM0 P k e (w.alloc (.map #[] 0)) w.heap.size 0 [] :=
 ⟨.map [],World.ownsMap_made w P k _,isMap_empty,fun kl=>⟨false,by simp [DataW.atKey],by simp⟩⟩
theorem aM0.kept {P:Program} {k e:TypeId} {w w':World} {b n:Nat} {ks:List Lit} {row:Option Nat} (h:aM0 P k e w b n ks) (hg:w.grownBy w' row) (hne:some b≠row):aM0 P k e w' b n ks:=by
 obtain ⟨D,h1,h2,h3⟩:=h;exact ⟨D,h1.kept hg hne,h2,h3⟩
theorem aM0.keep {P:Program} {k e:TypeId} {w w':World} {b n:Nat} {ks:List Lit} (h:aM0 P k e w b n ks) (hb:Bel w w'):aM0 P k e w' b n ks:=h.kept (hb.grownBy none) (by simp)
theorem aM0.lt {P:Program} {k e:TypeId} {w:World} {b n:Nat} {ks:List Lit} (h:aM0 P k e w b n ks):b<w.heap.size:=by
 obtain ⟨D,h1,_,_⟩:=h;exact h1.lt
theorem aN1 {P:Program} {e:TypeId} (he:P.underlying e=some .bool) {v:Value} {x:Bool} {ps:List MemPlace} (h:plainElem (H:=Unit) P e v=some (.lit (.bool x),ps)):v = .bool x:=by
 unfold plainElem at h;rw [he] at h;cases v <;> simp at h
 .rename_i b
  obtain ⟨h1,_⟩:=h;simp [h1]
theorem aM0.look {P:Program} {k e t:TypeId} {w:World} {b n:Nat} {ks:List Lit} (h:aM0 P k e w b n ks) (K:Keyed P k) (ht:P.underlying t=some (.map k e)) (he:P.underlying e=some .bool) (hz:(zeroValue e).run P w = .ok (.bool false) w)
  {key:Value} {kl:Lit} (hkey:keyOf P k key=some kl):∃ x,(Instr.lookup t (.map (some b)) key false).run P w = .ok (.bool x) w/\(x=true↔kl∈ks):=by
 obtain ⟨D,h1,_,h3⟩:=h;obtain ⟨v,ps,hrun,hv⟩:=h1.lookup K ht hz (plainElem_bool he false) hkey;obtain ⟨x,hx,hi⟩:=h3 kl;rw [hx] at hv;exact ⟨x,by rw [hrun,aN1 he hv],hi⟩
theorem aGg {P:Program} (w:World) {ops:Array Oper} {rest:List Oper} {o:Oper} {a:Act} {Q:Exit->Act->World->Prop}
  (hg:o.guard=none) (m x v:Operand) (t:TypeId) (hop:o.op=Op.mapUpdate t m x v)
  (k e:TypeId) (K:Keyed P k) (ht:P.underlying t=some (.map k e)) (he:P.underlying e=some .bool) (b n:Nat) (ks:List Lit)
  (hm:a.eval m = .map (some b)) (hown:aM0 P k e w b n ks) (hn:n<maxLen) (key:Value) (kl:Lit) (hx:a.eval x=key) (hv:a.eval v = .bool true) (hkey:keyOf P k key=some kl) (hkl:WideAt.IsKeyLit kl)
  (hK:∀ w',aM0 P k e w' b (n+1) (kl :: ks)->w.grownBy w' (some b)->wpList P ops Q rest (a.put o.dst undef) w') :
  wpList P ops Q (o :: rest) a w:=by
 obtain ⟨D,h1,h2,h3⟩:=hown;refine wpList_mapUpdate_own w hg m x v t hop k e K ht _ b n D hm h1 hn key (.bool true) kl hx hv hkey _ [] (plainElem_bool he true) ?_
 intro w' h4 h5
 refine hK w' ⟨_,h4,h2.put _ _,fun kl'=>?_⟩ h5
 by_cases hh:kl'=kl
 .subst hh
  exact ⟨true,by rw [atKey_put_same h2 hkl],by simp⟩
 .obtain ⟨x,hx,hi⟩:=h3 kl'
  exact ⟨x,by rw [atKey_put_other hh,hx],by rw [hi];simp [hh]⟩
theorem Bel.map {w wr w':World} (h:Bel w wr) {b:Nat} (hb:w.heap.size<=b) (hg:wr.grownBy w' (some b)):Bel w w':=h.grown hg (fun k hk=>by injection hk with hk;omega)
structure PairK (P:Program) (k e:TypeId):Prop where
 hu:P.underlying k=some (.array 2 e)
 he:P.underlying e=some (.int .i64)
 one:P.cellsOf e=1
 two:P.cellsOf k=2
 kt:P.keyType k=true
 sz:∃ m,P.types.size=m+1
def pk (a b:Int):Lit := .string (keyBytes [.int .i64 a,.int .i64 b])
def aSg (x:Int × Int):Value := .agg #[.int .i64 x.1,.int .i64 x.2]
theorem PairK.law {P:Program} {k e:TypeId} (A:PairK P k e):Keyed P k :=
 Keyed.of_law (WideMaps.ArrKey.law ⟨A.hu,by unfold Program.plainKey;rw [A.he],A.one,A.two⟩)
theorem PairK.keyOf {P:Program} {k e:TypeId} (A:PairK P k e) {a b:Int} (ha:(Lit.int .i64 a).wf=true) (hb:(Lit.int .i64 b).wf=true):Go.keyOf P k (aSg (a,b))=some (pk a b):=by
 obtain ⟨m,hm⟩:=A.sz;unfold Go.keyOf aSg;rw [A.hu];simp only []
 rw [A.kt];simp only [Value.formed,A.hu,A.two,Bool.true_and]
 rw [hm];simp only [Program.keyLits,A.hu,A.he,A.one,A.two,Value.cells,List.range,List.range.loop]
 simp [ha,hb,pk]
theorem PairK.inv {P:Program} {k e:TypeId} (A:PairK P k e) {v:Value} {l:Lit} (h:Go.keyOf P k v=some l):∃ x:Int × Int,v=aSg x/\(Lit.int .i64 x.1).wf=true/\(Lit.int .i64 x.2).wf=true/\l=pk x.1 x.2:=by
 obtain ⟨m,hm⟩:=A.sz;unfold Go.keyOf at h;rw [A.hu] at h;simp only [] at h
 rw [A.kt] at h;cases v with
 | agg cs =>
  simp only [Value.formed,A.hu,A.two,Bool.true_and] at h
  split at h
  .rename_i hs
   obtain ⟨l'⟩:=cs;simp at hs
   match l',hs with
   | [u,v],_ =>
    rw [hm] at h;cases u with
    | int q a =>
     cases v with
     | int q' b =>
      simp only [Program.keyLits,A.hu,A.he,A.one,A.two,Value.cells,List.range,List.range.loop] at h
      by_cases h1:q = .i64/\(Lit.int .i64 a).wf=true
      .by_cases h2:q' = .i64/\(Lit.int .i64 b).wf=true
       .obtain ⟨rfl,h1⟩:=h1
        obtain ⟨rfl,h2⟩:=h2;simp [h1,h2] at h
        exact ⟨(a,b),rfl,h1,h2,h.symm⟩
       .simp [h1,h2] at h
      .simp [h1] at h
     | _=>simp [Program.keyLits,A.hu,A.he,A.one,A.two,Value.cells,List.range,List.range.loop] at h
    | _=>simp [Program.keyLits,A.hu,A.he,A.one,A.two,Value.cells,List.range,List.range.loop] at h
  .cases h
 | _=>simp [Value.formed,A.hu] at h
theorem bN4 {P:Program} {k e:TypeId} (A:PairK P k e) {a b c d:Int} (ha:(Lit.int .i64 a).wf=true) (hb:(Lit.int .i64 b).wf=true) (hc:(Lit.int .i64 c).wf=true) (hd:(Lit.int .i64 d).wf=true) (h:pk a b=pk c d):a=c/\b=d:=by
 have h1:=A.keyOf ha hb;have h2:=A.keyOf hc hd;rw [h] at h1;have:=A.law.inj h1 h2;simp [aSg] at this
 exact this
def aHd (P:Program) (k e:TypeId) (w:World) (b n:Nat) (D:DataW Unit) (M:Int->Int->Int):Prop :=
 w.ownsMap P k (plainElem P e) b n D/\IsMap D/\(∀ x y,(Lit.int .i64 x).wf=true->(Lit.int .i64 y).wf=true->D.atKey (pk x y) (.lit (.int .i64 0)) = .lit (.int .i64 (M x y))/\(has D (pk x y)=true↔M x y≠0))
theorem aHd.made (P:Program) (k e:TypeId) (w:World):aHd P k e (w.alloc (.map #[] 0)) w.heap.size 0 (.map []) (fun _ _=>0) :=
 ⟨World.ownsMap_made w P k _,isMap_empty,fun x y _ _=>⟨by simp [DataW.atKey],by simp [has]⟩⟩
theorem aHd.kept {P:Program} {k e:TypeId} {w w':World} {b n:Nat} {D:DataW Unit} {M:Int->Int->Int} {row:Option Nat} (h:aHd P k e w b n D M) (hg:w.grownBy w' row) (hne:some b≠row):aHd P k e w' b n D M :=
 ⟨h.1.kept hg hne,h.2⟩
theorem aHd.keep {P:Program} {k e:TypeId} {w w':World} {b n:Nat} {D:DataW Unit} {M:Int->Int->Int} (h:aHd P k e w b n D M) (hb:Bel w w'):aHd P k e w' b n D M:=h.kept (hb.grownBy none) (by simp)
theorem aHd.lookOk {P:Program} {k e t:TypeId} (A:PairK P k e) (ht:P.underlying t=some (.map k e)) {w:World} {b n:Nat} {D:DataW Unit} {M:Int->Int->Int} (h:aHd P k e w b n D M) (hz:(zeroValue e).run P w = .ok (.int .i64 0) w) {x y:Int} (hx:(Lit.int .i64 x).wf=true) (hy:(Lit.int .i64 y).wf=true) :
  (Instr.lookup t (.map (some b)) (aSg (x,y)) true).run P w = .ok (.tuple #[.int .i64 (M x y),.bool (decide (M x y≠0))]) w:=by
 obtain ⟨v,ps,hrun,hv⟩:=h.1.look_ok A.law ht hz (plainElem_int A.he (by decide)) (A.keyOf hx hy)
 obtain ⟨h1,h2⟩:=h.2.2 x y hx hy;rw [h1] at hv;obtain ⟨c,rfl,hc,_⟩:=plainElem_int_inv A.he hv;simp at hc
 rw [hrun,<- hc.1]
 congr 3
 rw [show has D (pk x y)=decide (M x y≠0) by rw [Bool.eq_iff_iff];simpa using h2]
theorem aHd.look {P:Program} {k e t:TypeId} (A:PairK P k e) (ht:P.underlying t=some (.map k e)) {w:World} {b n:Nat} {D:DataW Unit} {M:Int->Int->Int} (h:aHd P k e w b n D M) (hz:(zeroValue e).run P w = .ok (.int .i64 0) w) {x y:Int} (hx:(Lit.int .i64 x).wf=true) (hy:(Lit.int .i64 y).wf=true) :
  (Instr.lookup t (.map (some b)) (aSg (x,y)) false).run P w = .ok (.int .i64 (M x y)) w:=by
 obtain ⟨c,hrun,hc,_⟩:=h.1.lookup_int A.law ht A.he hz (A.keyOf hx hy);rw [(h.2.2 x y hx hy).1] at hc;simp at hc
 rw [hrun,hc]
def bOw (M:Int->Int->Int) (x y c:Int):Int->Int->Int:=fun a b=>if a=x/\b=y then c else M a b
theorem aHd.put {P:Program} {k e:TypeId} (A:PairK P k e) {w':World} {b n:Nat} {D:DataW Unit} {M:Int->Int->Int} {x y c:Int} (hx:(Lit.int .i64 x).wf=true) (hy:(Lit.int .i64 y).wf=true) (hc:c≠0)
  (h2:IsMap D/\(∀ x y,(Lit.int .i64 x).wf=true->(Lit.int .i64 y).wf=true->D.atKey (pk x y) (.lit (.int .i64 0)) = .lit (.int .i64 (M x y))/\(has D (pk x y)=true↔M x y≠0)))
  (h:w'.ownsMap P k (plainElem P e) b n (D.put (pk x y) (.lit (.int .i64 c)))):aHd P k e w' b n (D.put (pk x y) (.lit (.int .i64 c))) (bOw M x y c):=by
 refine ⟨h,h2.1.put _ _,fun a b ha hb=>?_⟩
 have hkl:WideAt.IsKeyLit (pk x y):=trivial
 by_cases he:a=x/\b=y
 .obtain ⟨rfl,rfl⟩:=he
  refine ⟨?_,?_⟩
  .rw [atKey_put_same h2.1 hkl];simp [bOw]
  .simp only [bOw]
   simp [hc]
   exact has_true_of_atKey (y := .lit (.int .i64 c)) (fun z=>atKey_put_same h2.1 hkl _ z)
 .have hne:pk a b≠pk x y:=fun h=>he (bN4 A ha hb hx hy h)
  have hM:bOw M x y c a b=M a b:=by unfold bOw;rw [if_neg he]
  obtain ⟨g1,g2⟩:=h2.2 a b ha hb;refine ⟨by rw [atKey_put_other hne,hM,g1],?_⟩
  rw [hM,<- g2];constructor
  .intro hh
   cases hD:has D (pk a b) with
   | true=>rfl
   | false =>
    have:has (D.put (pk x y) (.lit (.int .i64 c))) (pk a b)=false:=has_false_of_atKey (fun z=>by rw [atKey_put_other hne,atKey_of_not_has hD])
    rw [this] at hh;cases hh
  .intro hh
   cases hD:has (D.put (pk x y) (.lit (.int .i64 c))) (pk a b) with
   | true=>rfl
   | false =>
    have:has D (pk a b)=false:=has_false_of_atKey (fun z=>by rw [<- atKey_put_other hne (.lit (.int .i64 c)),atKey_of_not_has hD])
    rw [this] at hh;cases hh
open Go.RowKit
theorem aBl {p:Prg} (h:aCc p=true):p.name.size<=40/\p.vars.length<=10/\p.rules.length<=16/\(∀ x∈p.vars,x.name.size<=40)/\(∀ r∈p.rules,aOz r=true):=by
 unfold aCc at h;simp at h
 obtain ⟨⟨⟨⟨h1,h2⟩,h3⟩,h4⟩,h5⟩:=h;exact ⟨h1,h2,h3,h4,h5⟩
theorem aEt {r:Rule} (h:aOz r=true):r.name.size<=40/\r.sets.length<=10/\r.guard.length<=250/\∀ s∈r.sets,s.value.length<=250:=by
 unfold aOz at h;simp at h
 obtain ⟨⟨⟨h1,h2⟩,h3⟩,h4⟩:=h;exact ⟨h1,h2,h3,h4⟩
theorem aH2 {g:Graph} (h:aBt g=true):g.ids.length<=30/\g.ports.length<=30/\∀ r∈g.ports,r.length<=30:=by
 unfold aBt at h;simp at h
 obtain ⟨⟨h1,h2⟩,h3⟩:=h;exact ⟨h1,h2,h3⟩
section
variable {P:Program}
theorem Blk.row {w:World} {B:Nat} {cs:Array Value} {t:TypeId} (h:Blk w B cs t) (cs':Array Value):Blk (w.setRow B cs') B cs' t:=setRow_heap w B cs cs' t _ h
theorem bKb {o:Oper} {a:Act} (w:World) {K:Act->World->Prop} {Q:Exit->Act->World->Prop} (t:TypeId) (x y:Operand) (ho:o.op = .makeSlice t x y)
  (base:Nat) (e:TypeId) (i:TypeInfo) (z:Value) (size:Nat) (ht:P.underlying t=some (.slice e)) (hi:P.info? e=some i) (hz:i.zero=some z) (hsize:i.size=size)
  (kl kc:IntKind) (n:Nat) (hx:a.eval x = .int kl (n:Int)) (hy:a.eval y = .int kc (n:Int)) (hbytes:i.bytes*n<=281474976710656) (h63:n<=maxLen) (hbase:base<=w.heap.size)
  (h:∀ g w',w'.ownsRow base e size (.slice (some ⟨g,0,none⟩) n n) n (madeCells z.cells (n*size)).toList->Bel w w'->K (a.put o.dst (.slice (some ⟨g,0,none⟩) n n)) w'):o.wp P a w K Q:=by
 obtain ⟨w',hr,h2,h3⟩:=run_make_full (P:=P) w base t e i z size ht hi hz hsize kl kc n hbytes h63 hbase;unfold Oper.wp execOp;simp only [ho,hx,hy,Sem.run_bind,hr,Result.andThen_ok,Sem.run_pure]
 exact h _ w' h2 ((Bel.refl w).grown h3 (fun k hk=>by cases hk))
theorem aEh {ops:Array Oper} {o:Oper} {a:Act} (w:World) {K:Act->World->Prop} {Q:Exit->Act->World->Prop} {E:Prop} (hgd:o.guard=none) (t:TypeId) (x y:Operand) (ho:o.op = .makeSlice t x y)
  (base:Nat) (e:TypeId) (i:TypeInfo) (z:Value) (size:Nat) (ht:P.underlying t=some (.slice e)) (hi:P.info? e=some i) (hz:i.zero=some z) (hsize:i.size=size)
  (kl kc:IntKind) (n:Nat) (hx:a.eval x = .int kl (n:Int)) (hy:a.eval y = .int kc (n:Int)) (hbytes:i.bytes*n<=281474976710656) (h63:n<=maxLen) (hbase:base<=w.heap.size)
  (h:∀ g w',w'.ownsRow base e size (.slice (some ⟨g,0,none⟩) n n) n (madeCells z.cells (n*size)).toList->Bel w w'->K (a.put o.dst (.slice (some ⟨g,0,none⟩) n n)) w') :
  if Region.wanted o (yielded ops a.tmps)=true then Oper.wp P o a w K Q else E:=by
 have hw:Region.wanted o (yielded ops a.tmps)=true:=by simp [Region.wanted,hgd]
 rw [if_pos hw];exact bKb w t x y ho base e i z size ht hi hz hsize kl kc n hx hy hbytes h63 hbase h
theorem aB7 {ops:Array Oper} {rest:List Oper} {o:Oper} {a:Act} (w:World) {Q:Exit->Act->World->Prop} (hgd:o.guard=none) (t:TypeId) (x y:Operand) (ho:o.op = .makeSlice t x y)
  (base:Nat) (e:TypeId) (i:TypeInfo) (z:Value) (size:Nat) (ht:P.underlying t=some (.slice e)) (hi:P.info? e=some i) (hz:i.zero=some z) (hsize:i.size=size)
  (kl kc:IntKind) (n:Nat) (hx:a.eval x = .int kl (n:Int)) (hy:a.eval y = .int kc (n:Int)) (hbytes:i.bytes*n<=281474976710656) (h63:n<=maxLen) (hbase:base<=w.heap.size)
  (h:∀ g w',w'.ownsRow base e size (.slice (some ⟨g,0,none⟩) n n) n (madeCells z.cells (n*size)).toList->Bel w w'->wpList P ops Q rest (a.put o.dst (.slice (some ⟨g,0,none⟩) n n)) w'):wpList P ops Q (o :: rest) a w :=
 wpList_plain hgd fun _ hK=>bKb w t x y ho base e i z size ht hi hz hsize kl kc n hx hy hbytes h63 hbase fun g w' h1 h2=>hK _ _ (h g w' h1 h2)
end
theorem aB3 (z:Value) (hz:z.cells=#[z]) (n:Nat):(madeCells z.cells (n*1)).toList=List.replicate n z:=by
 rw [hz,Nat.mul_one];apply List.ext_getElem?
 intro k
 simp only [madeCells,Array.toList_map,List.getElem?_map]
 by_cases hk:k<n
 .simp [hk,Nat.mod_one]
 .simp [hk]
def aHg (c:UInt8):Bool:=decide ((97<=(c.toNat:Int)/\(c.toNat:Int)<=122)∨(65<=(c.toNat:Int)/\(c.toNat:Int)<=90))
def aQj (c:UInt8):Bool:=decide (48<=(c.toNat:Int)/\(c.toNat:Int)<=57)
def aF0 (c:UInt8):Bool:=aHg c||aQj c||decide ((c.toNat:Int)=95)
theorem aKf (c:UInt8) (w:World):Calls prog 98 #[.int .u8 (c.toNat:Int)] w fun e w'=>e = .returned (.bool (aHg c))/\w=w':=by
 go_enter func98,ntmps98;go_wp2
 all_goals (go_ret;refine ⟨aA1 ?_,rfl⟩;unfold aHg;rw [Bool.eq_iff_iff];simp) <;> omega
theorem aX3 (c:UInt8) (w:World):Calls prog 100 #[.int .u8 (c.toNat:Int)] w fun e w'=>e = .returned (.bool (aQj c))/\w=w':=by
 go_enter func100,ntmps100;go_wp2
 all_goals (go_ret;refine ⟨aA1 ?_,rfl⟩;unfold aQj;rw [Bool.eq_iff_iff];simp) <;> omega
theorem aNy (c:UInt8) (w:World):Calls prog 99 #[.int .u8 (c.toNat:Int)] w fun e w'=>e = .returned (.bool (aF0 c))/\w=w':=by
 cases h1:aHg c <;> cases h2:aQj c
 all_goals
  have HF:=aA0 (show aF0 c=(aHg c||aQj c||decide ((c.toNat:Int)=95)) from rfl)
  rw [h1,h2] at HF;go_enter func99,ntmps99
  go_wp2_with (first
   | (go_at_call 98;refine (aKf _ _).mono ?_;rintro e w' ⟨rfl,rfl⟩)
   | (go_at_call 100;refine (aX3 _ _).mono ?_;rintro e w' ⟨rfl,rfl⟩))
  all_goals (go_ret;refine ⟨aA1 ?_,rfl⟩;rw [HF.out];simp;try (rw [Bool.eq_iff_iff];simp))
def wordsL:List (List UInt8):=[[112,114,111,103,114,97,109],[118,97,114],[114,117,108,101],[98,111,111,108],[112,111,114,116],[116,114,117,101],[102,97,108,115,101],[110,111,110,101],[110],[105,100,115],[105,100],[100,101,103],[114,111,111,116],[113],[119,101,105,103,104,116],[98,97,99,107],[97,108,108],[115,111,109,101],[99,111,117,110,116],[102,105,114,115,116],[109,105,110],[109,97,120],[115,117,109],[109,101,120],[115,101,99,111,110,100],[104,101,97,100]]
def aGt (s:ByteArray):Bool:=wordsL.any fun l=>s.toList==l
theorem aYu (s:ByteArray) (w:World):Calls prog 139 #[.string s] w fun e w'=>e = .returned (.bool (aGt s))/\w=w':=by
 have HR:Hid (aGt s=((s.toList==[112,114,111,103,114,97,109])||((s.toList==[118,97,114])||((s.toList==[114,117,108,101])||((s.toList==[98,111,111,108])||((s.toList==[112,111,114,116])||((s.toList==[116,114,117,101])||((s.toList==[102,97,108,115,101])||((s.toList==[110,111,110,101])||((s.toList==[110])||((s.toList==[105,100,115])||((s.toList==[105,100])||((s.toList==[100,101,103])||((s.toList==[114,111,111,116])||((s.toList==[113])||((s.toList==[119,101,105,103,104,116])||((s.toList==[98,97,99,107])||((s.toList==[97,108,108])||((s.toList==[115,111,109,101])||((s.toList==[99,111,117,110,116])||((s.toList==[102,105,114,115,116])||((s.toList==[109,105,110])||((s.toList==[109,97,120])||((s.toList==[115,117,109])||((s.toList==[109,101,120])||((s.toList==[115,101,99,111,110,100])||((s.toList==[104,101,97,100])))))))))))))))))))))))))))):=by
  show aGt s=_
  simp only [aGt,wordsL,List.any_cons,List.any_nil,Bool.or_false]
 obtain ⟨b0,h0⟩:∃ b,(s.toList==[112,114,111,103,114,97,109])=b:=⟨_,rfl⟩;obtain ⟨b1,h1⟩:∃ b,(s.toList==[118,97,114])=b:=⟨_,rfl⟩;obtain ⟨b2,h2⟩:∃ b,(s.toList==[114,117,108,101])=b:=⟨_,rfl⟩;obtain ⟨b3,h3⟩:∃ b,(s.toList==[98,111,111,108])=b:=⟨_,rfl⟩;obtain ⟨b4,h4⟩:∃ b,(s.toList==[112,111,114,116])=b:=⟨_,rfl⟩;obtain ⟨b5,h5⟩:∃ b,(s.toList==[116,114,117,101])=b:=⟨_,rfl⟩;obtain ⟨b6,h6⟩:∃ b,(s.toList==[102,97,108,115,101])=b:=⟨_,rfl⟩;obtain ⟨b7,h7⟩:∃ b,(s.toList==[110,111,110,101])=b:=⟨_,rfl⟩;obtain ⟨b8,h8⟩:∃ b,(s.toList==[110])=b:=⟨_,rfl⟩;obtain ⟨b9,h9⟩:∃ b,(s.toList==[105,100,115])=b:=⟨_,rfl⟩;obtain ⟨b10,h10⟩:∃ b,(s.toList==[105,100])=b:=⟨_,rfl⟩;obtain ⟨b11,h11⟩:∃ b,(s.toList==[100,101,103])=b:=⟨_,rfl⟩;obtain ⟨b12,h12⟩:∃ b,(s.toList==[114,111,111,116])=b:=⟨_,rfl⟩;obtain ⟨b13,h13⟩:∃ b,(s.toList==[113])=b:=⟨_,rfl⟩;obtain ⟨b14,h14⟩:∃ b,(s.toList==[119,101,105,103,104,116])=b:=⟨_,rfl⟩;obtain ⟨b15,h15⟩:∃ b,(s.toList==[98,97,99,107])=b:=⟨_,rfl⟩;obtain ⟨b16,h16⟩:∃ b,(s.toList==[97,108,108])=b:=⟨_,rfl⟩;obtain ⟨b17,h17⟩:∃ b,(s.toList==[115,111,109,101])=b:=⟨_,rfl⟩;obtain ⟨b18,h18⟩:∃ b,(s.toList==[99,111,117,110,116])=b:=⟨_,rfl⟩;obtain ⟨b19,h19⟩:∃ b,(s.toList==[102,105,114,115,116])=b:=⟨_,rfl⟩;obtain ⟨b20,h20⟩:∃ b,(s.toList==[109,105,110])=b:=⟨_,rfl⟩;obtain ⟨b21,h21⟩:∃ b,(s.toList==[109,97,120])=b:=⟨_,rfl⟩;obtain ⟨b22,h22⟩:∃ b,(s.toList==[115,117,109])=b:=⟨_,rfl⟩;obtain ⟨b23,h23⟩:∃ b,(s.toList==[109,101,120])=b:=⟨_,rfl⟩;obtain ⟨b24,h24⟩:∃ b,(s.toList==[115,101,99,111,110,100])=b:=⟨_,rfl⟩;obtain ⟨b25,h25⟩:∃ b,(s.toList==[104,101,97,100])=b:=⟨_,rfl⟩;rw [h0,h1,h2,h3,h4,h5,h6,h7,h8,h9,h10,h11,h12,h13,h14,h15,h16,h17,h18,h19,h20,h21,h22,h23,h24,h25] at HR;go_enter func139,ntmps139;cases b0 with
 | true =>
  go_wp2;go_ret;exact ⟨aA1 (by rw [HR.out];simp),rfl⟩
 | false =>
 cases b1 with
 | true =>
  go_wp2;go_ret;exact ⟨aA1 (by rw [HR.out];simp),rfl⟩
 | false =>
 cases b2 with
 | true =>
  go_wp2;go_ret;exact ⟨aA1 (by rw [HR.out];simp),rfl⟩
 | false =>
 cases b3 with
 | true =>
  go_wp2;go_ret;exact ⟨aA1 (by rw [HR.out];simp),rfl⟩
 | false =>
 cases b4 with
 | true =>
  go_wp2;go_ret;exact ⟨aA1 (by rw [HR.out];simp),rfl⟩
 | false =>
 cases b5 with
 | true =>
  go_wp2;go_ret;exact ⟨aA1 (by rw [HR.out];simp),rfl⟩
 | false =>
 cases b6 with
 | true =>
  go_wp2;go_ret;exact ⟨aA1 (by rw [HR.out];simp),rfl⟩
 | false =>
 cases b7 with
 | true =>
  go_wp2;go_ret;exact ⟨aA1 (by rw [HR.out];simp),rfl⟩
 | false =>
 cases b8 with
 | true =>
  go_wp2;go_ret;exact ⟨aA1 (by rw [HR.out];simp),rfl⟩
 | false =>
 cases b9 with
 | true =>
  go_wp2;go_ret;exact ⟨aA1 (by rw [HR.out];simp),rfl⟩
 | false =>
 cases b10 with
 | true =>
  go_wp2;go_ret;exact ⟨aA1 (by rw [HR.out];simp),rfl⟩
 | false =>
 cases b11 with
 | true =>
  go_wp2;go_ret;exact ⟨aA1 (by rw [HR.out];simp),rfl⟩
 | false =>
 cases b12 with
 | true =>
  go_wp2;go_ret;exact ⟨aA1 (by rw [HR.out];simp),rfl⟩
 | false =>
 cases b13 with
 | true =>
  go_wp2;go_ret;exact ⟨aA1 (by rw [HR.out];simp),rfl⟩
 | false =>
 cases b14 with
 | true =>
  go_wp2;go_ret;exact ⟨aA1 (by rw [HR.out];simp),rfl⟩
 | false =>
 cases b15 with
 | true =>
  go_wp2;go_ret;exact ⟨aA1 (by rw [HR.out];simp),rfl⟩
 | false =>
 cases b16 with
 | true =>
  go_wp2;go_ret;exact ⟨aA1 (by rw [HR.out];simp),rfl⟩
 | false =>
 cases b17 with
 | true =>
  go_wp2;go_ret;exact ⟨aA1 (by rw [HR.out];simp),rfl⟩
 | false =>
 cases b18 with
 | true =>
  go_wp2;go_ret;exact ⟨aA1 (by rw [HR.out];simp),rfl⟩
 | false =>
 cases b19 with
 | true =>
  go_wp2;go_ret;exact ⟨aA1 (by rw [HR.out];simp),rfl⟩
 | false =>
 cases b20 with
 | true =>
  go_wp2;go_ret;exact ⟨aA1 (by rw [HR.out];simp),rfl⟩
 | false =>
 cases b21 with
 | true =>
  go_wp2;go_ret;exact ⟨aA1 (by rw [HR.out];simp),rfl⟩
 | false =>
 cases b22 with
 | true =>
  go_wp2;go_ret;exact ⟨aA1 (by rw [HR.out];simp),rfl⟩
 | false =>
 cases b23 with
 | true =>
  go_wp2;go_ret;exact ⟨aA1 (by rw [HR.out];simp),rfl⟩
 | false =>
 cases b24 with
 | true =>
  go_wp2;go_ret;exact ⟨aA1 (by rw [HR.out];simp),rfl⟩
 | false =>
 cases b25 with
 | true =>
  go_wp2;go_ret;exact ⟨aA1 (by rw [HR.out];simp),rfl⟩
 | false =>
 go_wp2;go_ret;exact ⟨aA1 (by rw [HR.out];rfl),rfl⟩
def aJl (s:ByteArray):Bool:=decide (1<=s.size/\s.size<=24)&&aHg (s.data.toList.headD 0)&&s.data.toList.all aF0 && !aGt s
theorem bNv (s:ByteArray) (h:0<s.size):s.data.toList.headD 0=s[0]:=by
 have h':0<s.data.toList.length:=by simpa using h
 show s.data.toList.headD 0=s.data.toList[0]
 match hl:s.data.toList,h' with
 | x :: l,_=>rfl
theorem aGc (s:ByteArray) (w:World) (hs:s.size<=1000000):Calls prog 106 #[.string s] w fun e w'=>e = .returned (.bool (aJl s))/\w=w':=by
 by_cases hn:1<=s.size/\s.size<=24
 .obtain ⟨hn1,hn2⟩:=hn
  have h0:0<s.size:=by omega
  have HF:Hid (aJl s=(aHg s[0]&&s.data.toList.all aF0 && !aGt s)):=by
   show aJl s=_
   unfold aJl;rw [bNv s h0,show decide (1<=s.size/\s.size<=24)=true by simp;omega];simp
  cases hl:aHg s[0] with
  | false =>
   rw [hl] at HF;go_enter func106,ntmps106
   go_wp2_with (go_at_call 98;refine (aKf s[0] _).mono ?_;rintro e w' ⟨rfl,rfl⟩)
   go_ret;exact ⟨aA1 (by rw [HF.out];rfl),rfl⟩
  | true =>
   rw [hl] at HF;go_enter func106,ntmps106
   go_wp2_with (go_at_call 98;refine (aKf s[0] _).mono ?_;rintro e w' ⟨rfl,rfl⟩)
   go_loopg [3,20] s.size (fun m _x z wr=>∃ j:Nat,j<=s.size/\m=s.size-j/\Hid ((s.data.toList.take j).all aF0=true)/\z = .int .i64 j/\w=wr)
   case atStart=>exact ⟨0,by omega,rfl,rfl,rfl,rfl⟩
   case round =>
    obtain ⟨j,hj,rfl,HK,rfl,rfl⟩:=hrel
    by_cases hlt:j<s.size
    .have hd0:decide (j<s.size)=true:=by simpa using hlt
     cases hw:aF0 s[j] with
     | false =>
      have HG:=aA0 (aCh (f:=aF0) (l:=s.data.toList) (by simpa using hlt) (show aF0 (s.data.toList[j]'(by simpa using hlt))=false from hw))
      go_wp2_with (go_at_call 99;refine (aNy s[j] _).mono ?_;rintro e w' ⟨rfl,rfl⟩)
      go_ret;exact ⟨aA1 (by rw [HF.out,HG.out];rfl),rfl⟩
     | true =>
      have HG:=aA0 (aAp (f:=aF0) (l:=s.data.toList) (by simpa using hlt) HK.out (show aF0 (s.data.toList[j]'(by simpa using hlt))=true from hw))
      go_wp2_with (go_at_call 99;refine (aNy s[j] _).mono ?_;rintro e w' ⟨rfl,rfl⟩)
      go_roundg (s.size-(j+1))
      case rel=>exact ⟨j+1,by omega,rfl,HG,by go_num,rfl⟩
      case measure=>omega
    .have hd0:decide (j<s.size)=false:=by simpa using hlt
     have HG:=aA0 (aC1 (f:=aF0) (l:=s.data.toList) (by simp;omega) HK.out)
     rw [HG.out] at HF
     go_wp2_with (go_at_call 139;refine (aYu s _).mono ?_;rintro e w' ⟨rfl,rfl⟩)
     all_goals (go_ret;exact ⟨aA1 (by rw [HF.out];simp),rfl⟩)
 .have HF:Hid (aJl s=false):=by
   show aJl s=false
   unfold aJl;rw [show decide (1<=s.size/\s.size<=24)=false by simpa using hn];rfl
  rcases (show s.size=0∨24<s.size by omega) with h | h
  .have h':s.size<1:=by omega
   clear hn h;go_enter func106,ntmps106;go_wp2;go_ret;exact ⟨aA1 HF.out.symm,rfl⟩
  .have h':1<=s.size:=by omega
   clear hn;go_enter func106,ntmps106;go_wp2;go_ret;exact ⟨aA1 HF.out.symm,rfl⟩
def aZj (a:Int):Int:=max (-1073741824) (min a 1073741824)
def Num (a:Int):Prop := -1073741824<=a/\a<=1073741824
def aB6 (b:Bool):Int:=if b then 1 else 0
theorem bDd (a:Int):Num (aZj a):=by unfold Num aZj;omega
theorem bOk {a:Int} (h:Num a):aZj a=a:=by unfold Num at h;unfold aZj;omega
theorem bK2 (b:Bool):aB6 b=0∨aB6 b=1:=by cases b <;> simp [aB6]
theorem aFm (b:Bool):Num (aB6 b):=by unfold Num;have:=bK2 b;omega
theorem aLp (b:Bool):aZj (aB6 b)=aB6 b:=bOk (aFm b)
def aIt (op a:Int):Int:=if op=18 then -a else aB6 (a==0)
def aJs (a b:Int):Int:=if b=0 then 0 else if a.tmod b≠0/\(decide (a<0) != decide (b<0))=true then a.tdiv b-1 else a.tdiv b
theorem aTl (a b:Int) (ha:Num a) : -1073741824<=a.tdiv b/\a.tdiv b<=1073741824:=by
 have h:=Int.natAbs_tdiv_le_natAbs a b;unfold Num at ha;omega
theorem bBb (a b:Int) (ha:Num a) : -1073741825<=aJs a b/\aJs a b<=1073741824:=by
 unfold aJs;split
 .omega
 .have:=aTl a b ha
  split <;> omega
theorem aYa (a b:Int) (ha:Num a) (hb : -1073741825<=b/\b<=1073741825) : -1152921505680588800<=a*b/\a*b<=1152921505680588800:=by
 have h:(a*b).natAbs<=1073741824*1073741825:=by
  rw [Int.natAbs_mul];unfold Num at ha;exact Nat.mul_le_mul (by omega) (by omega)
 omega
def bH4 (op a b:Int):Int :=
 if op=30 then a*b
 else if op=31 then aJs a b
 else if op=32 then (if b=0 then 0 else a-b*aJs a b)
 else if op=33 then a+b
 else if op=34 then a-b
 else if op=35 then aB6 (a==b)
 else if op=36 then aB6 (a != b)
 else if op=37 then aB6 (decide (a<b))
 else if op=38 then aB6 (decide (a<=b))
 else if op=39 then aB6 (decide (b<a))
 else if op=40 then aB6 (decide (b<=a))
 else if op=41 then aB6 (a != 0&&b != 0)
 else aB6 (a != 0||b != 0)
def aBm (op a b:Int):Int:=aZj (bH4 op a b)
def aEb (l:List Int):Int:=(l.filter (fun a=>a != 0)).length
def aJf:List Int->Int->Int
 | [],_ => -1
 | a :: l,i=>if a≠0 then i else aJf l (i+1)
def minF (l:List Int):Int:=l.foldl min 1073741824
def aOo:List Int->Int->Int->Int × Int
 | [],g,s=>(g,s)
 | a :: l,g,s=>if g<a then aOo l a g else aOo l g (max s a)
def bOq (l:List Int):Int × Int:=aOo l (-1073741824) (-1073741824)
def sumF (l:List Int):Int:=l.foldl (·+·) 0
def aS7 (l:List Int) (k:Int):Nat:=(l.filter (fun x=>decide (k<=x))).length
def aO1 (l:List Int):Nat->Int->Int
 | 0,k=>k
 | f+1,k=>if k∈l then aO1 l f (k+1) else k
def bOv (l:List Int):Int:=aO1 l (aS7 l 0) 0
def aIv (op:Int) (l:List Int):Int :=
 if op=20 then aB6 (aEb l==l.length)
 else if op=21 then aB6 (decide (0<aEb l))
 else if op=22 then aEb l
 else if op=23 then aJf l 0
 else if op=24 then minF l
 else if op=25 then (bOq l).1
 else if op=26 then aZj (sumF l)
 else if op=27 then bOv l
 else if op=28 then (bOq l).2
 else l.headD 0
theorem bA6 (a:Int) (l:List Int):aEb (a :: l)=(if a=0 then 0 else 1)+aEb l:=by
 unfold aEb
 by_cases h:a=0
 .simp [h]
 .simp [h];omega
theorem bHf (l:List Int):0<=aEb l/\aEb l<=l.length:=by
 unfold aEb;have:=List.length_filter_le (fun a:Int=>a != 0) l;omega
theorem aU8 {l:List Int} {k:Int} (h:k∈l):aS7 l (k+1)<aS7 l k:=by
 unfold aS7
 induction l with
 | nil=>cases h
 | cons x l ih =>
  have hmono:∀ l:List Int,(l.filter (fun x=>decide (k+1<=x))).length<=(l.filter (fun x=>decide (k<=x))).length:=by
   intro l
   induction l with
   | nil=>simp
   | cons y l ih =>
    simp only [List.filter_cons]
    by_cases h1:k+1<=y <;> by_cases h2:k<=y <;> simp [h1,h2] <;> omega
  rcases List.mem_cons.1 h with e | e
  .subst e
   have:=hmono l;simp only [List.filter_cons]
   rw [if_neg (by simp;omega),if_pos (by simp)]
   simp;omega
  .have:=ih e
   simp only [List.filter_cons]
   by_cases h1:k+1<=x <;> by_cases h2:k<=x <;> simp [h1,h2] <;> omega
theorem bCa (l:List Int) (k:Int):aS7 l k<=l.length:=List.length_filter_le _ _
theorem bLs (l:List Int):∀ (f:Nat) (k:Int),aS7 l k<=f->k<=aO1 l f k/\aO1 l f k<=k+f/\aO1 l f k ∉ l/\∀ j,k<=j->j<aO1 l f k->j∈l:=by
 intro f
 induction f with
 | zero =>
  intro k h
  have hk:k ∉ l:=fun hm=>by have:=aU8 hm;omega
  exact ⟨Int.le_refl _,by simp [aO1],hk,fun j h1 h2=>by simp [aO1] at h2;omega⟩
 | succ f ih =>
  intro k h
  simp only [aO1]
  by_cases hk:k∈l
  .rw [if_pos hk]
   have hc:=aU8 hk;obtain ⟨i1,i2,i3,i4⟩:=ih (k+1) (by omega)
   refine ⟨by omega,by omega,i3,fun j h1 h2=>?_⟩
   by_cases e:j=k
   .subst e;exact hk
   .exact i4 j (by omega) h2
  .rw [if_neg hk]
   exact ⟨Int.le_refl _,by omega,hk,fun j h1 h2=>by omega⟩
theorem bMf {a b:Int} {r:Int × Int} (h:r=(a,b)):Ending.returned (.tuple #[.int .i64 a,.int .i64 b]) = .returned (.tuple #[.int .i64 r.1,.int .i64 r.2]):=by rw [h]
theorem aEa (a:Int) (w:World):Calls prog 188 #[.int .i64 a] w fun e w'=>e = .returned (.int .i64 (aZj a))/\w=w':=by
 go_enter func188,ntmps188;go_wp2
 all_goals
  go_ret;refine ⟨aA9 ?_,rfl⟩
  unfold aZj;omega
theorem aEi (b:Bool) (w:World):Calls prog 186 #[.bool b] w fun e w'=>e = .returned (.int .i64 (aB6 b))/\w=w':=by
 cases b
 all_goals
  go_enter func186,ntmps186;go_wp2;go_ret;exact ⟨rfl,rfl⟩
theorem aP3 (a b:Int) (w:World) (ha:Num a) (hb:Num b):Calls prog 189 #[.int .i64 a,.int .i64 b] w fun e w'=>e = .returned (.int .i64 (aJs a b))/\w=w':=by
 by_cases h0:b=0
 .subst h0
  go_enter func189,ntmps189;go_wp2;go_ret;exact ⟨rfl,rfl⟩
 .have hz:(b==0)=false:=by simpa using h0
  have ht:=aTl a b ha;obtain ⟨ht1,ht2⟩:=ht;have ha':=ha;unfold Num at ha hb;obtain ⟨ha1,ha2⟩:=ha;obtain ⟨hb1,hb2⟩:=hb
  by_cases hm:a.tmod b=0
  .have hmb:(a.tmod b != 0)=false:=by simpa using hm
   have HF:Hid (aJs a b=a.tdiv b):=by
    show aJs a b=_
    unfold aJs;rw [if_neg h0,if_neg (by simp [hm])]
   clear hm;go_enter func189,ntmps189;go_wp2;go_ret;exact ⟨aA9 HF.out.symm,rfl⟩
  .have hmb:(a.tmod b != 0)=true:=by simpa using hm
   cases hs:(decide (a<0) != decide (b<0)) with
   | true =>
    have HF:Hid (aJs a b=a.tdiv b-1):=by
     show aJs a b=_
     unfold aJs;rw [if_neg h0,if_pos ⟨hm,hs⟩]
    have hs':(!(decide (a<0)==decide (b<0)))=true:=hs;clear hm hs;go_enter func189,ntmps189;go_wp2;go_ret;exact ⟨aA9 HF.out.symm,rfl⟩
   | false =>
    have HF:Hid (aJs a b=a.tdiv b):=by
     show aJs a b=_
     unfold aJs;rw [if_neg h0,if_neg (by simp [hs])]
    have hs':(!(decide (a<0)==decide (b<0)))=false:=hs;clear hm hs;go_enter func189,ntmps189;go_wp2;go_ret;exact ⟨aA9 HF.out.symm,rfl⟩
theorem bK7 (op a:Int) (w:World) (ha:Num a):Calls prog 177 #[.int .i64 op,.int .i64 a] w fun e w'=>e = .returned (.int .i64 (aIt op a))/\w=w':=by
 unfold Num at ha;obtain ⟨ha1,ha2⟩:=ha
 by_cases h:op=18
 .subst h
  go_enter func177,ntmps177;go_wp2;go_ret;exact ⟨rfl,rfl⟩
 .have HF:Hid (aIt op a=aB6 (a==0)):=by show aIt op a=_;unfold aIt;rw [if_neg h]
  have hb:(op==18)=false:=by simpa using h
  clear h;go_enter func177,ntmps177
  go_wp2_with (go_at_call 186;refine (aEi _ _).mono ?_;rintro e w' ⟨rfl,rfl⟩)
  go_ret;exact ⟨aA9 HF.out.symm,rfl⟩
def cmpF (op a b:Int):Bool :=
 if op=35 then a==b else if op=36 then a != b else if op=37 then decide (a<b) else if op=38 then decide (a<=b) else if op=39 then decide (b<a) else decide (b<=a)
theorem aWu (op a b:Int) (w:World):Calls prog 190 #[.int .i64 op,.int .i64 a,.int .i64 b] w fun e w'=>e = .returned (.bool (cmpF op a b))/\w=w':=by
 go_enter func190,ntmps190;go_wp2
 all_goals
  go_ret;refine ⟨aA1 ?_,rfl⟩
  simp only [beq_iff_eq,beq_eq_false_iff_ne,ne_eq] at *
  unfold cmpF
  repeat' split
  all_goals first | rfl | omega
theorem bDz (op a b:Int) (h1:35<=op) (h2:op<=40):bH4 op a b=aB6 (cmpF op a b):=by
 have:op=35∨op=36∨op=37∨op=38∨op=39∨op=40:=by omega
 rcases this with h | h | h | h | h | h <;> subst h <;> rfl
theorem bE5 (op a b:Int) (w:World) (h1:30<=op) (h2:op<=42) (ha:Num a) (hb:Num b):Calls prog 179 #[.int .i64 op,.int .i64 a,.int .i64 b] w fun e w'=>e = .returned (.int .i64 (aBm op a b))/\w=w':=by
 have hq:=bBb a b ha;have hm:=aYa a b ha (by unfold Num at hb;omega)
 have hm2:=aYa b (aJs a b) hb (by omega)
 obtain ⟨hq1,hq2⟩:=hq;obtain ⟨hm1,hm3⟩:=hm;obtain ⟨hm4,hm5⟩:=hm2;have HA:=aA0 ha;have HB:=aA0 hb;unfold Num at ha hb;obtain ⟨ha1,ha2⟩:=ha;obtain ⟨hb1,hb2⟩:=hb;have hcase:op=30∨op=31∨op=32∨op=33∨op=34∨(35<=op/\op<=40)∨op=41∨op=42:=by omega
 rcases hcase with h | h | h | h | h | h | h | h
 .subst h
  go_enter func179,ntmps179
  go_wp2_with (go_at_call 188;refine (aEa _ _).mono ?_;rintro e w' ⟨rfl,rfl⟩)
  go_ret;exact ⟨rfl,rfl⟩
 .subst h
  go_enter func179,ntmps179
  go_wp2_with (first
   | (go_at_call 188;refine (aEa _ _).mono ?_;rintro e w' ⟨rfl,rfl⟩)
   | (go_at_call 189;refine (aP3 _ _ _ HA.out HB.out).mono ?_;rintro e w' ⟨rfl,rfl⟩))
  go_ret;exact ⟨rfl,rfl⟩
 .subst h
  by_cases h0:b=0
  .subst h0
   go_enter func179,ntmps179;go_wp2;go_ret;exact ⟨rfl,rfl⟩
  .have hz:(b==0)=false:=by simpa using h0
   have HF:Hid (aBm 32 a b=aZj (a-b*aJs a b)):=by
    show aBm 32 a b=_
    unfold aBm bH4;simp [h0]
   clear h0;go_enter func179,ntmps179
   go_wp2_with (first
    | (go_at_call 188;refine (aEa _ _).mono ?_;rintro e w' ⟨rfl,rfl⟩)
    | (go_at_call 189;refine (aP3 _ _ _ HA.out HB.out).mono ?_;rintro e w' ⟨rfl,rfl⟩))
   go_ret;exact ⟨aA9 HF.out.symm,rfl⟩
 .subst h
  go_enter func179,ntmps179
  go_wp2_with (go_at_call 188;refine (aEa _ _).mono ?_;rintro e w' ⟨rfl,rfl⟩)
  go_ret;exact ⟨rfl,rfl⟩
 .subst h
  go_enter func179,ntmps179
  go_wp2_with (go_at_call 188;refine (aEa _ _).mono ?_;rintro e w' ⟨rfl,rfl⟩)
  go_ret;exact ⟨rfl,rfl⟩
 .have HF:Hid (aBm op a b=aB6 (cmpF op a b)):=by
   show aBm op a b=_
   unfold aBm;rw [bDz op a b h.1 h.2,aLp]
  have e1:(op==30)=false:=by simp;omega
  have e2:(op==31)=false:=by simp;omega
  have e3:(op==32)=false:=by simp;omega
  have e4:(op==33)=false:=by simp;omega
  have e5:(op==34)=false:=by simp;omega
  have e6:(op==41)=false:=by simp;omega
  have e7:(op==42)=false:=by simp;omega
  go_enter func179,ntmps179
  go_wp2_with (first
   | (go_at_call 190;refine (aWu _ _ _ _).mono ?_;rintro e w' ⟨rfl,rfl⟩)
   | (go_at_call 186;refine (aEi _ _).mono ?_;rintro e w' ⟨rfl,rfl⟩))
  go_ret;exact ⟨aA9 HF.out.symm,rfl⟩
 .subst h
  have HF:Hid (aBm 41 a b=aB6 (a != 0&&b != 0)):=by show aBm 41 a b=_;exact aLp _
  by_cases h0:a=0
  .have hz:(a != 0)=false:=by simpa using h0
   rw [hz] at HF;clear h0;go_enter func179,ntmps179
   go_wp2_with (go_at_call 186;refine (aEi _ _).mono ?_;rintro e w' ⟨rfl,rfl⟩)
   go_ret;exact ⟨aA9 HF.out.symm,rfl⟩
  .have hz:(a != 0)=true:=by simpa using h0
   rw [hz] at HF;clear h0;go_enter func179,ntmps179
   go_wp2_with (go_at_call 186;refine (aEi _ _).mono ?_;rintro e w' ⟨rfl,rfl⟩)
   go_ret;exact ⟨aA9 HF.out.symm,rfl⟩
 .subst h
  have HF:Hid (aBm 42 a b=aB6 (a != 0||b != 0)):=by show aBm 42 a b=_;exact aLp _
  by_cases h0:a=0
  .have hz:(a != 0)=false:=by simpa using h0
   rw [hz] at HF;clear h0;go_enter func179,ntmps179
   go_wp2_with (go_at_call 186;refine (aEi _ _).mono ?_;rintro e w' ⟨rfl,rfl⟩)
   go_ret;exact ⟨aA9 HF.out.symm,rfl⟩
  .have hz:(a != 0)=true:=by simpa using h0
   rw [hz] at HF;clear h0;go_enter func179,ntmps179
   go_wp2_with (go_at_call 186;refine (aEi _ _).mono ?_;rintro e w' ⟨rfl,rfl⟩)
   go_ret;exact ⟨aA9 HF.out.symm,rfl⟩
theorem bNy (a b:Int):∃ m,(if b<a then b else a)=m/\m=min a b:=⟨_,rfl,by split <;> omega⟩
theorem bHz (a b:Int):∃ m,(if a<b then b else a)=m/\m=max a b:=⟨_,rfl,by split <;> omega⟩
theorem bHm (a:Int) (w:World):Calls prog 196 #[.int .i64 a] w fun e w'=>e = .returned (.bool (a != 0))/\w=w':=by
 go_enter func196,ntmps196;go_wp2;go_ret;exact ⟨rfl,rfl⟩
theorem aQh (A:Option Addr) (n c:Nat) (l:List Int) (w:World) (h:aCr w A n l) (hl:n<=1000) :
  Calls prog 194 #[.slice A n c] w fun e w'=>e = .returned (.int .i64 (aEb l))/\w=w':=by
 obtain rfl:=h.1;have H:=aA0 h;clear h;go_enter func194,ntmps194
 go_wp2_with fail
 go_loopg [3,8] l.length (fun g cv iv wr=>∃ (k:Nat) (z:Int),k+g=l.length/\0<=z/\z<=k/\Hid (z+aEb (l.drop k)=aEb l)/\cv = .int .i64 z/\iv = .int .i64 k/\w=wr)
 case atStart=>exact ⟨0,0,by omega,by omega,by omega,by show _=_;simp,rfl,rfl,rfl⟩
 case round =>
  obtain ⟨k,z,hk,hz0,hz1,HZ,rfl,rfl,rfl⟩:=hrel
  by_cases hlt:k<l.length
  .obtain ⟨b,o,rfl,hb,hc⟩:=H.out.at_ k hlt
   have hstep:Hid (aEb (l.drop k)=(if l[k]=0 then 0 else 1)+aEb (l.drop (k+1))):=by
    show aEb (l.drop k)=_
    rw [List.drop_eq_getElem_cons hlt,bA6]
   by_cases h0:l[k]=0
   .have hz:(l[k] != 0)=false:=by simpa using h0
    have HZ2:Hid (z+aEb (l.drop (k+1))=aEb l):=by show _=_;rw [<- HZ.out,hstep.out,if_pos h0];omega
    clear h0
    go_wp2_with fail
    go_roundg (gk-1)
    case rel=>exact ⟨k+1,z,by omega,by omega,by omega,HZ2,rfl,by go_num,rfl⟩
    case measure=>omega
   .have hz:(l[k] != 0)=true:=by simpa using h0
    have HZ2:Hid (z+1+aEb (l.drop (k+1))=aEb l):=by show _=_;rw [<- HZ.out,hstep.out,if_neg h0];omega
    clear h0
    go_wp2_with fail
    go_roundg (gk-1)
    case rel=>exact ⟨k+1,z+1,by omega,by omega,by omega,HZ2,rfl,by go_num,rfl⟩
    case measure=>omega
  .go_wp2_with fail
   go_ret;refine ⟨aA9 ?_,rfl⟩
   have:=HZ.out;rw [List.drop_eq_nil_of_le (by omega)] at this
   simpa [aEb] using this
theorem bK3 (A:Option Addr) (n c:Nat) (l:List Int) (w:World) (h:aCr w A n l) (hl:n<=1000) :
  Calls prog 197 #[.slice A n c] w fun e w'=>e = .returned (.tuple #[.int .i64 (bOq l).1,.int .i64 (bOq l).2])/\w=w':=by
 obtain rfl:=h.1;have H:=aA0 h;clear h;go_enter func197,ntmps197
 go_wp2_with fail
 go_loopg [2,3,8] l.length (fun g av sv iv wr=>∃ (k:Nat) (a s:Int),k+g=l.length/\Hid (aOo (l.drop k) a s=bOq l)/\av = .int .i64 a/\sv = .int .i64 s/\iv = .int .i64 k/\w=wr)
 case atStart=>exact ⟨0,_,_,by omega,rfl,rfl,rfl,rfl,rfl⟩
 case round =>
  obtain ⟨k,a,s,hk,HZ,rfl,rfl,rfl,rfl⟩:=hrel
  by_cases hlt:k<l.length
  .obtain ⟨b,o,rfl,hb,hc⟩:=H.out.at_ k hlt
   have hstep:Hid (aOo (l.drop k) a s=if a<l[k] then aOo (l.drop (k+1)) l[k] a else aOo (l.drop (k+1)) a (max s l[k])):=by
    show aOo (l.drop k) a s=_
    rw [List.drop_eq_getElem_cons hlt];rfl
   obtain ⟨m,hm,hm'⟩:=bHz s l[k];have HM:=aA0 hm';clear hm'
   by_cases h0:a<l[k]
   .have hd:decide (a<l[k])=true:=by simpa using h0
    have HZ2:Hid (aOo (l.drop (k+1)) l[k] a=bOq l):=by show _=_;rw [<- HZ.out,hstep.out,if_pos h0]
    clear h0
    go_wp2_with fail
    go_roundg (gk-1)
    case rel=>exact ⟨k+1,l[k],a,by omega,HZ2,rfl,rfl,by go_num,rfl⟩
    case measure=>omega
   .have hd:decide (a<l[k])=false:=by simpa using h0
    have HZ2:Hid (aOo (l.drop (k+1)) a m=bOq l):=by show _=_;rw [<- HZ.out,hstep.out,if_neg h0,HM.out]
    clear h0
    go_wp2_with fail
    go_roundg (gk-1)
    case rel=>exact ⟨k+1,a,m,by omega,HZ2,rfl,rfl,by go_num,rfl⟩
    case measure=>omega
  .go_wp2_with fail
   go_ret2
   have hz:=HZ.out;rw [List.drop_eq_nil_of_le (by omega)] at hz
   exact ⟨bMf hz.symm,rfl⟩
def aFu:List Int->(Int->Bool)->Int->Int
 | [],_,_ => -1
 | a :: l,f,i=>if f a then i else aFu l f (i+1)
theorem bAg (l:List Int):∀ i,aFu l (fun a=>a != 0) i=aJf l i:=by
 induction l with
 | nil=>intro i;rfl
 | cons a l ih =>
  intro i
  simp only [aFu,aJf]
  by_cases h:a=0
  .simp [h,ih]
  .simp [h]
theorem bHu (l:List Int) (x:Int):∀ i,0<=i->(0<=aFu l (fun a=>x==a) i↔x∈l):=by
 induction l with
 | nil=>intro i _;simp [aFu]
 | cons a l ih =>
  intro i hi
  simp only [aFu]
  by_cases h:x=a
  .simp [h,hi]
  .simp [h,ih (i+1) (by omega)]
theorem bHx (A:Option Addr) (n c:Nat) (l:List Int) (x:Int) (w:World) (h:aCr w A n l) (hl:n<=1000) :
  Calls prog 204 #[.slice A n c,.int .i64 x] w fun e w'=>e = .returned (.int .i64 (aFu l (fun a=>x==a) 0))/\w=w':=by
 obtain rfl:=h.1;have H:=aA0 h;clear h;go_enter func204,ntmps204
 go_wp2_with fail
 go_loopg [8] l.length (fun g iv wr=>∃ (k:Nat),k+g=l.length/\Hid (aFu (l.drop k) (fun a=>x==a) k=aFu l (fun a=>x==a) 0)/\iv = .int .i64 k/\w=wr)
 case atStart=>exact ⟨0,by omega,rfl,rfl,rfl⟩
 case round =>
  obtain ⟨k,hk,HZ,rfl,rfl⟩:=hrel
  by_cases hlt:k<l.length
  .obtain ⟨b,o,rfl,hb,hc⟩:=H.out.at_ k hlt
   have hstep:Hid (aFu (l.drop k) (fun a=>x==a) k=if (x==l[k])=true then (k:Int) else aFu (l.drop (k+1)) (fun a=>x==a) ((k:Int)+1)):=by
    show aFu (l.drop k) (fun a=>x==a) k=_
    rw [List.drop_eq_getElem_cons hlt];rfl
   cases h0:(x==l[k]) with
   | true =>
    have HZ2:Hid ((k:Int)=aFu l (fun a=>x==a) 0):=by show _=_;rw [<- HZ.out,hstep.out,if_pos h0]
    go_wp2_with fail
    go_ret;exact ⟨aA9 HZ2.out,rfl⟩
   | false =>
    have HZ2:Hid (aFu (l.drop (k+1)) (fun a=>x==a) ((k+1:Nat):Int)=aFu l (fun a=>x==a) 0):=by show _=_;rw [<- HZ.out,hstep.out,if_neg (by rw [h0];decide)];rfl
    go_wp2_with fail
    go_roundg (gk-1)
    case rel=>exact ⟨k+1,by omega,HZ2,by go_num,rfl⟩
    case measure=>omega
  .go_wp2_with fail
   go_ret;have hz:=HZ.out;rw [List.drop_eq_nil_of_le (by omega)] at hz
   exact ⟨aA9 hz,rfl⟩
theorem aOu (A:Option Addr) (n c:Nat) (l:List Int) (x:Int) (w:World) (h:aCr w A n l) (hl:n<=1000) :
  Calls prog 202 #[.slice A n c,.int .i64 x] w fun e w'=>e = .returned (.bool (decide (x∈l)))/\w=w':=by
 obtain rfl:=h.1;have H:=aA0 h;clear h
 have HF:Hid (decide (x∈l)=decide (0<=aFu l (fun a=>x==a) 0)):=by
  show decide (x∈l)=_
  rw [Bool.eq_iff_iff];simp [bHu l x 0 (by omega)]
 go_enter func202,ntmps202
 go_wp2_with (go_at_call 204;refine (bHx _ _ _ l _ _ H.out hl).mono ?_;rintro e w' ⟨rfl,rfl⟩)
 go_ret;exact ⟨aA1 HF.out.symm,rfl⟩
theorem bO6 (A:Option Addr) (n c:Nat) (l:List Int) (w:World) (h:aCr w A n l) (hl:n<=1000) :
  Calls prog 198 #[.slice A n c] w fun e w'=>e = .returned (.int .i64 (bOv l))/\w=w':=by
 obtain rfl:=h.1;have H:=aA0 h;clear h;have hcl:=bCa l 0;go_enter func198,ntmps198
 go_wp2_with fail
 go_loopg [3] (aS7 l 0) (fun g rv wr=>∃ (k:Int),0<=k/\k+g=aS7 l 0/\aS7 l k<=g/\Hid (aO1 l g k=bOv l)/\rv = .int .i64 k/\w=wr)
 case atStart=>exact ⟨0,by omega,by omega,Nat.le_refl _,rfl,rfl,rfl⟩
 case round =>
  obtain ⟨k,hk0,hk,hg,HZ,rfl,rfl⟩:=hrel
  by_cases hm:k∈l
  .have hc:=aU8 hm
   obtain ⟨g,rfl⟩:∃ g,gk=g+1:=⟨gk-1,by omega⟩
   have HZ2:Hid (aO1 l g (k+1)=bOv l):=by
    have:=HZ.out;simp only [aO1] at this
    rw [if_pos hm] at this;exact this
   have hd:decide (k∈l)=true:=decide_eq_true hm;have hk6:k<=1000000:=by omega
   clear hm
   go_wp2_with (go_at_call 202;refine (aOu _ _ _ l _ _ H.out hl).mono ?_;rintro e w' ⟨rfl,rfl⟩;rw [hd])
   go_roundg g
   case rel=>exact ⟨k+1,by omega,by omega,by omega,HZ2,rfl,rfl⟩
   case measure=>omega
  .have HZ2:Hid (k=bOv l):=by
    have:=HZ.out;cases gk with
    | zero=>exact this
    | succ g=>simp only [aO1] at this;rw [if_neg hm] at this;exact this
   have hd:decide (k∈l)=false:=decide_eq_false hm;clear hm
   go_wp2_with (go_at_call 202;refine (aOu _ _ _ l _ _ H.out hl).mono ?_;rintro e w' ⟨rfl,rfl⟩;rw [hd])
   go_ret;exact ⟨aA9 HZ2.out,rfl⟩
theorem aUl (f:FuncId) (p:Int->Bool) (hf:∀ a w,Calls prog f #[.int .i64 a] w fun e w'=>e = .returned (.bool (p a))/\w=w') (hcall:∀ a w,(callFunc f #[a]).run prog w = .ok (.enter f #[a]) w)
  (A:Option Addr) (n c:Nat) (l:List Int) (w:World) (h:aCr w A n l) (hl:n<=1000) :
  Calls prog 195 #[.slice A n c,.func (.func f) #[] #[]] w fun e w'=>e = .returned (.int .i64 (aFu l p 0))/\w=w':=by
 obtain rfl:=h.1;have H:=aA0 h;clear h;have HF:=aA0 hf;clear hf;go_enter func195,ntmps195
 go_wp2_with fail
 go_loopg [8] l.length (fun g iv wr=>∃ (k:Nat),k+g=l.length/\Hid (aFu (l.drop k) p k=aFu l p 0)/\iv = .int .i64 k/\w=wr)
 case atStart=>exact ⟨0,by omega,rfl,rfl,rfl⟩
 case round =>
  obtain ⟨k,hk,HZ,rfl,rfl⟩:=hrel
  by_cases hlt:k<l.length
  .obtain ⟨b,o,rfl,hb,hc⟩:=H.out.at_ k hlt
   have hstep:Hid (aFu (l.drop k) p k=if p l[k]=true then (k:Int) else aFu (l.drop (k+1)) p ((k:Int)+1)):=by
    show aFu (l.drop k) p k=_
    rw [List.drop_eq_getElem_cons hlt];rfl
   cases h0:p l[k] with
   | true =>
    have HZ2:Hid ((k:Int)=aFu l p 0):=by show _=_;rw [<- HZ.out,hstep.out,if_pos h0]
    go_wp2_with (((with_reducible refine (HF.out _ _).mono ?_);rintro e w' ⟨rfl,rfl⟩;rw [h0]))
    go_ret;exact ⟨aA9 HZ2.out,rfl⟩
   | false =>
    have HZ2:Hid (aFu (l.drop (k+1)) p ((k+1:Nat):Int)=aFu l p 0):=by show _=_;rw [<- HZ.out,hstep.out,if_neg (by rw [h0];decide)];rfl
    go_wp2_with (((with_reducible refine (HF.out _ _).mono ?_);rintro e w' ⟨rfl,rfl⟩;rw [h0]))
    go_roundg (gk-1)
    case rel=>exact ⟨k+1,by omega,HZ2,by go_num,rfl⟩
    case measure=>omega
  .go_wp2_with fail
   go_ret;have hz:=HZ.out;rw [List.drop_eq_nil_of_le (by omega)] at hz
   exact ⟨aA9 hz,rfl⟩
theorem bCi (A:Option Addr) (n c:Nat) (l:List Int) (op:Int) (w:World) (h:aCr w A n l) (hl:n<=1000) (h1:20<=op) (h2:op<=29) (hn:∀ x∈l,Num x) :
  Calls prog 187 #[.int .i64 op,.slice A n c] w fun e w'=>e = .returned (.int .i64 (aIv op l))/\w=w':=by
 obtain rfl:=h.1;have H:=aA0 h;clear h;have HN:=aA0 hn;clear hn;have hcase:op=20∨op=21∨op=22∨op=23∨op=24∨op=25∨op=26∨op=27∨op=28∨op=29:=by omega
 clear h1 h2
 rcases hcase with h | h | h | h | h | h | h | h | h | h
 .subst h
  go_enter func187,ntmps187
  go_wp2_with (first
   | (go_at_call 194;refine (aQh _ _ _ l _ H.out hl).mono ?_;rintro e w' ⟨rfl,rfl⟩)
   | (go_at_call 186;refine (aEi _ _).mono ?_;rintro e w' ⟨rfl,rfl⟩))
  go_ret;exact ⟨rfl,rfl⟩
 .subst h
  go_enter func187,ntmps187
  go_wp2_with (first
   | (go_at_call 194;refine (aQh _ _ _ l _ H.out hl).mono ?_;rintro e w' ⟨rfl,rfl⟩)
   | (go_at_call 186;refine (aEi _ _).mono ?_;rintro e w' ⟨rfl,rfl⟩))
  go_ret;exact ⟨rfl,rfl⟩
 .subst h
  go_enter func187,ntmps187
  go_wp2_with (first
   | (go_at_call 194;refine (aQh _ _ _ l _ H.out hl).mono ?_;rintro e w' ⟨rfl,rfl⟩))
  go_ret;exact ⟨rfl,rfl⟩
 .subst h
  have HF:Hid (aFu l (fun a=>a != 0) 0=aIv 23 l):=bAg l 0;go_enter func187,ntmps187
  go_wp2_with (go_at_call 195;refine (aUl 196 (fun a=>a != 0) (fun a w=>bHm a w) (fun _ _=>by kernel_rfl) _ _ _ l _ H.out hl).mono ?_;rintro e w' ⟨rfl,rfl⟩)
  go_ret;exact ⟨aA9 HF.out,rfl⟩
 .subst h
  go_enter func187,ntmps187
  go_wp2_with fail
  go_loopg [5,42] l.length (fun g mv iv wr=>∃ (k:Nat) (z:Int),k+g=l.length/\Hid ((l.drop k).foldl min z=aIv 24 l)/\mv = .int .i64 z/\iv = .int .i64 k/\w=wr)
  case atStart=>exact ⟨0,_,by omega,rfl,rfl,rfl,rfl⟩
  case round =>
   obtain ⟨k,z,hk,HZ,rfl,rfl,rfl⟩:=hrel
   by_cases hlt:k<l.length
   .obtain ⟨b,o,rfl,hb,hc⟩:=H.out.at_ k hlt
    obtain ⟨m,hm,hm'⟩:=bNy z l[k]
    have HZ2:Hid ((l.drop (k+1)).foldl min m=aIv 24 l):=by
     have:=HZ.out;rw [List.drop_eq_getElem_cons hlt,List.foldl_cons,<- hm'] at this;exact this
    clear hm'
    go_wp2_with fail
    go_roundg (gk-1)
    case rel=>exact ⟨k+1,m,by omega,HZ2,rfl,by go_num,rfl⟩
    case measure=>omega
   .go_wp2_with fail
    go_ret;have hz:=HZ.out;rw [List.drop_eq_nil_of_le (by omega)] at hz
    exact ⟨aA9 hz,rfl⟩
 .subst h
  go_enter func187,ntmps187
  go_wp2_with (first
   | (go_at_call 197;refine (bK3 _ _ _ l _ H.out hl).mono ?_;rintro e w' ⟨rfl,rfl⟩))
  go_ret;exact ⟨rfl,rfl⟩
 .subst h
  go_enter func187,ntmps187
  go_wp2_with fail
  go_loopg [10,63] l.length (fun g sv iv wr=>∃ (k:Nat) (z:Int),k+g=l.length /\ -(1073741824*k)<=z/\z<=1073741824*k/\Hid (aZj ((l.drop k).foldl (·+·) z)=aIv 26 l)/\sv = .int .i64 z/\iv = .int .i64 k/\w=wr)
  case atStart=>exact ⟨0,0,by omega,by omega,by omega,rfl,rfl,rfl,rfl⟩
  case round =>
   obtain ⟨k,z,hk,hz1,hz2,HZ,rfl,rfl,rfl⟩:=hrel
   by_cases hlt:k<l.length
   .obtain ⟨b,o,rfl,hb,hc⟩:=H.out.at_ k hlt
    have hx:=HN.out l[k] (List.getElem_mem _);unfold Num at hx;obtain ⟨hx1,hx2⟩:=hx
    have HZ2:Hid (aZj ((l.drop (k+1)).foldl (·+·) (z+l[k]))=aIv 26 l):=by
     have:=HZ.out;rw [List.drop_eq_getElem_cons hlt,List.foldl_cons] at this;exact this
    go_wp2_with fail
    go_roundg (gk-1)
    case rel=>exact ⟨k+1,z+l[k],by omega,by omega,by omega,HZ2,rfl,by go_num,rfl⟩
    case measure=>omega
   .have hz:=HZ.out
    rw [List.drop_eq_nil_of_le (by omega)] at hz
    have HZ2:=aA0 hz;clear hz
    go_wp2_with (go_at_call 188;refine (aEa _ _).mono ?_;rintro e w' ⟨rfl,rfl⟩)
    go_ret;exact ⟨aA9 HZ2.out,rfl⟩
 .subst h
  go_enter func187,ntmps187
  go_wp2_with (first
   | (go_at_call 198;refine (bO6 _ _ _ l _ H.out hl).mono ?_;rintro e w' ⟨rfl,rfl⟩))
  go_ret;exact ⟨rfl,rfl⟩
 .subst h
  go_enter func187,ntmps187
  go_wp2_with (first
   | (go_at_call 197;refine (bK3 _ _ _ l _ H.out hl).mono ?_;rintro e w' ⟨rfl,rfl⟩))
  go_ret;exact ⟨rfl,rfl⟩
 .subst h
  rcases l with _ | ⟨x,l⟩
  .go_enter func187,ntmps187
   go_wp2_with fail
   go_ret;exact ⟨rfl,rfl⟩
  .obtain ⟨b,o,rfl,hb,hc⟩:=H.out.at_ 0 (by simp)
   have hc':w.cell? ⟨b,o,none⟩=some (.int .i64 x):=by simpa using hc
   clear hc;have hne:(((x :: l).length:Int)==0)=false:=by simp;omega
   go_enter func187,ntmps187
   go_wp2_with fail
   go_ret;exact ⟨rfl,rfl⟩
def aHv (n:Nat) (h:Nat->Bool):Nat:=(List.range n).foldl (fun s v=>if h v then s|||2 ^ v else s) 0
theorem bJn (h:Nat->Bool):aHv 0 h=0:=rfl
theorem aHw (n:Nat) (h:Nat->Bool):aHv (n+1) h=if h n then aHv n h|||2 ^ n else aHv n h:=by
 unfold aHv;rw [List.range_succ,List.foldl_append];rfl
theorem aIg (n:Nat) (h:Nat->Bool) (v:Nat):(aHv n h).testBit v=(decide (v<n)&&h v):=by
 induction n with
 | zero=>simp [bJn]
 | succ n ih =>
  rw [aHw]
  by_cases hv:v=n
  .subst hv
   cases hh:h v with
   | false=>simp [ih]
   | true=>simp [Nat.testBit_or,Nat.testBit_two_pow_self]
  .have e:decide (v<n+1)=decide (v<n):=by rw [decide_eq_decide];omega
   rw [e];cases hh:h n with
   | false=>simpa using ih
   | true =>
    simp only [if_true,Nat.testBit_or,ih,Nat.testBit_two_pow]
    have:decide (n=v)=false:=by simp;omega
    rw [this,Bool.or_false]
theorem aVq (n:Nat) (h:Nat->Bool):aHv n h<2 ^ n:=by
 apply Nat.lt_pow_two_of_testBit
 intro i hi
 rw [aIg,decide_eq_false (by omega)];rfl
theorem aN5 {n:Nat} (h:Nat->Bool) (hn:n<=32):aHv n h<4294967296 :=
 Nat.lt_of_lt_of_le (aVq n h) (Nat.pow_le_pow_right (n:=2) (by decide) hn)
def aBj (S T:Nat):Bool:=(List.range 32).all fun i => !S.testBit i||T.testBit i
def hasB (S:Nat) (x:Int):Bool:=decide (0<=x)&&decide (x<32)&&S.testBit x.toNat
theorem bCv {S T:Nat} (hS:S<4294967296) (hT:T<4294967296) (h:∀ v,v<32->S.testBit v=T.testBit v):S=T:=by
 refine Nat.eq_of_testBit_eq fun v=>?_
 rcases Nat.lt_or_ge v 32 with hv | hv
 .exact h v hv
 .have e:(4294967296:Nat)<=2 ^ v:=Nat.pow_le_pow_right (n:=2) (i:=32) (by decide) hv
  rw [Nat.testBit_lt_two_pow (Nat.lt_of_lt_of_le hS e),Nat.testBit_lt_two_pow (Nat.lt_of_lt_of_le hT e)]
theorem aAi {S T:Nat}:aBj S T=true↔∀ v,v<32->S.testBit v=true->T.testBit v=true:=by
 unfold aBj;simp only [List.all_eq_true,List.mem_range,Bool.or_eq_true,Bool.not_eq_true']
 constructor
 .intro h v hv hS
  rcases h v hv with h | h
  .rw [h] at hS;cases hS
  .exact h
 .intro h v hv
  cases hb:S.testBit v with
  | false=>exact .inl rfl
  | true=>exact .inr (h v hv hb)
theorem aIp {S v:Nat} (hS:S<4294967296) (h:S.testBit v=true):v<32:=by
 rcases Nat.lt_or_ge v 32 with hv | hv
 .exact hv
 .have e:(4294967296:Nat)<=2 ^ v:=Nat.pow_le_pow_right (n:=2) (i:=32) (by decide) hv
  rw [Nat.testBit_lt_two_pow (Nat.lt_of_lt_of_le hS e)] at h;cases h
theorem aIl (i v:Nat):(2 ^ i).testBit v=decide (i=v):=Nat.testBit_two_pow
theorem aW3 {n:Nat} (h:n<4294967296):IntKind.u32.wrap (n:Int)=(n:Int):=by simp [IntKind.wrap,IntKind.bits,IntKind.signed];omega
theorem aLb {v:Nat} (h:v<32):2 ^ v<4294967296:=Nat.pow_lt_pow_right (a:=2) (by decide) h
theorem bv32 (S:Nat):BitVec.ofInt IntKind.u32.bits (S:Int)=BitVec.ofNat 32 S:=by
 simp [IntKind.bits]
theorem bNo {S T:Nat} (hS:S<4294967296) (hT:T<4294967296):bits .or .u32 (S:Int) (T:Int)=((S|||T:Nat):Int):=by
 have e:(BitVec.ofNat 32 S|||BitVec.ofNat 32 T).toNat=S|||T:=by
  simp only [BitVec.toNat_or,BitVec.toNat_ofNat]
  rw [Nat.mod_eq_of_lt (by omega),Nat.mod_eq_of_lt (by omega)]
 unfold bits;simp only [bv32]
 show IntKind.u32.wrap ((BitVec.ofNat 32 S|||BitVec.ofNat 32 T).toNat:Int)=_
 rw [e];exact aW3 (Nat.or_lt_two_pow (n:=32) hS hT)
theorem aCs {S T:Nat} (hS:S<4294967296) (_hT:T<4294967296):bits .and .u32 (S:Int) (T:Int)=((S&&&T:Nat):Int):=by
 have e:(BitVec.ofNat 32 S&&&BitVec.ofNat 32 T).toNat=S&&&T:=by
  simp only [BitVec.toNat_and,BitVec.toNat_ofNat]
  rw [Nat.mod_eq_of_lt (by omega),Nat.mod_eq_of_lt (by omega)]
 unfold bits;simp only [bv32]
 show IntKind.u32.wrap ((BitVec.ofNat 32 S&&&BitVec.ofNat 32 T).toNat:Int)=_
 rw [e];exact aW3 (Nat.and_lt_two_pow (n:=32) S _hT)
def aCg (S T:Nat):Nat:=(BitVec.ofNat 32 S&&&~~~BitVec.ofNat 32 T).toNat
theorem aPm (S T:Nat):aCg S T<4294967296:=(BitVec.ofNat 32 S&&&~~~BitVec.ofNat 32 T).isLt
theorem aEl (S T:Nat):bits .andNot .u32 (S:Int) (T:Int)=((aCg S T:Nat):Int):=by
 unfold bits;simp only [bv32]
 exact aW3 (aPm S T)
theorem aQi {S T:Nat} (hS:S<4294967296) (v:Nat):(aCg S T).testBit v=(S.testBit v && !T.testBit v):=by
 rcases Nat.lt_or_ge v 32 with hv | hv
 .unfold aCg
  rw [BitVec.testBit_toNat,BitVec.getLsbD_and,BitVec.getLsbD_not,BitVec.getLsbD_ofNat,BitVec.getLsbD_ofNat];simp [hv]
 .have e:(4294967296:Nat)<=2 ^ v:=Nat.pow_le_pow_right (n:=2) (i:=32) (by decide) hv
  rw [Nat.testBit_lt_two_pow (Nat.lt_of_lt_of_le (aPm S T) e),Nat.testBit_lt_two_pow (Nat.lt_of_lt_of_le hS e)];rfl
theorem aHp {S T:Nat} (hS:S<4294967296):(aCg S T==0)=aBj S T:=by
 rw [Bool.eq_iff_iff,beq_iff_eq,aAi];constructor
 .intro h v _ hv
  have:=aQi (T:=T) hS v;rw [h,Nat.zero_testBit,hv] at this;simpa using this.symm
 .intro h
  refine Nat.eq_of_testBit_eq fun v=>?_
  rw [aQi hS,Nat.zero_testBit];cases hb:S.testBit v with
  | false=>rfl
  | true=>rw [h v (aIp hS hb) hb];rfl
theorem bOn (S v:Nat):(S >>> v)&&&1=(S.testBit v).toNat:=by
 rw [Nat.and_one_is_mod,Nat.shiftRight_eq_div_pow,Nat.testBit_eq_decide_div_mod_eq];have:=Nat.mod_lt (S / 2 ^ v) (show 0<2 by decide)
 by_cases h:S / 2 ^ v % 2=1
 .rw [h];simp
 .have:S / 2 ^ v % 2=0:=by omega
  rw [this];simp
theorem aZw {S v:Nat} (hS:S<4294967296):bits .and .u32 ((S:Int) / 2 ^ v) 1=((S.testBit v).toNat:Int):=by
 have h1:(S:Int) / 2 ^ v=((S >>> v:Nat):Int):=by rw [Nat.shiftRight_eq_div_pow];simp
 rw [h1,show (1:Int)=((1:Nat):Int) from rfl,aCs (by have:=Nat.shiftRight_le S v;omega) (by decide),bOn]
theorem aK6 {S v:Nat} (hS:S<4294967296) (hv:v<32):bits .or .u32 (S:Int) (2 ^ v % 4294967296)=((S|||2 ^ v:Nat):Int):=by
 have h:=aLb hv
 have e:(2:Int) ^ v % 4294967296=((2 ^ v:Nat):Int):=by
  have e2:(2:Int) ^ v=((2 ^ v:Nat):Int):=by rw [Int.natCast_pow];rfl
  rw [e2];exact Int.emod_eq_of_lt (b:=4294967296) (Int.natCast_nonneg _) (Int.ofNat_lt.2 h)
 rw [e,bNo hS h]
theorem bJy (b:Bool):((b.toNat:Int)==1)=b:=by cases b <;> rfl
section
variable {P:Program} {ops:Array Oper} {Q:Exit->Act->World->Prop} {md:Region.Mode} {S:World->Prop} {L:Nat}
def aA4 (P:Program) (md:Region.Mode) (ops:Array Oper) (Q:Exit->Act->World->Prop) (S:World->Prop) (L:Nat):Nat->Array Bool->Act->World->Prop
 | 0,listed,a,w=>Region.ready md ops listed=[]/\Q .normal a w
 | fuel+1,listed,a,w=>(Region.ready md ops listed=[]->Q .normal a w) /\
   ∀ i∈Region.ready md ops listed,wpOp P ops Q i (fun a' w'=>(i≠L->S w')/\aA4 P md ops Q S L fuel (listed.setIfInBounds i true) a' w') a w
theorem aA4.any:∀ (fuel:Nat) (listed:Array Bool) (a:Act) (w:World),aA4 P md ops Q S L fuel listed a w->wpAny P md ops Q fuel listed a w
 | 0,_,_,_,h=>h
 | fuel+1,_,_,_,h=>⟨h.1,fun i hi=>wpOp_mono (fun a' w' k=>aA4.any fuel _ a' w' k.2) (h.2 i hi)⟩
def aPg (md:Region.Mode) (ops:Array Oper):Nat->List Nat->Bool
 | _,[]=>true
 | i,c :: cs=>(match ops[c]? with | some o=>o.after.any (fun e=>Region.binds md e&&e.on==i) | none=>false)&&aPg md ops c cs
def aFa (listed:Array Bool) (cs:List Nat):Bool:=cs.all fun c => !(listed.getD c true)
theorem aYi {listed:Array Bool} {j:Nat} (hj:j∈Region.ready md ops listed) (cs:List Nat):∀ i,listed.getD i true=false->aPg md ops i cs=true->aFa listed cs=true->j ∉ cs:=by
 induction cs with
 | nil=>intro i _ _ _ h;cases h
 | cons c cs ih =>
  intro i hi hw hu hm
  simp only [aPg,Bool.and_eq_true] at hw
  simp only [aFa,List.all_cons,Bool.and_eq_true] at hu
  have hc:listed.getD c true=false:=by simpa using hu.1
  rcases List.mem_cons.1 hm with rfl | hm
  .obtain ⟨_,oj,hoj,hall⟩:=mem_ready.1 hj
   have h1:=hw.1;rw [hoj] at h1;simp only [Array.any_eq_true'] at h1
   obtain ⟨e,he,hb⟩:=h1;simp only [Bool.and_eq_true,beq_iff_eq] at hb
   have h2:=hall e he hb.1;rw [hb.2] at h2
   rcases Nat.lt_or_ge i listed.size with h' | h'
   .simp [h'] at hi h2;rw [hi] at h2;cases h2
   .simp [Array.getElem?_eq_none h'] at h2
  .exact ih c hc hw.2 hu.2 hm
theorem aA4.first {i:Nat} {oi:Oper} {v:Value} (cs:List Nat) (hi:ops[i]?=some oi) (hsel:∀ (j:Nat) (o:Oper) cs b,ops[j]?=some o->o.op ≠ .select cs b)
  (hL:L∈cs) (hw:aPg md ops i cs=true)
  (hQ:∀ c a w,Q (.panic c) (a.put oi.dst v) w->Q (.panic c) a w) (fuel:Nat):∀ (listed:Array Bool) (a:Act) (w:World),
   (∀ j oj,ops[j]?=some oj->j≠i->listed.getD j true=false->(∀ e∈oj.after,Region.binds md e=true->e.on≠i)->oi.apart ops oj=true) ->
   i∈Region.ready md ops listed->aFa listed cs=true->YieldsIf P ops S oi v a->S w ->
   aA4 P md ops Q S L fuel (listed.setIfInBounds i true) (a.put oi.dst v) w->aA4 P md ops Q S L (fuel+1) listed a w:=by
 induction fuel with
 | zero =>
  intro listed a w _ hr _ hy hS H
  refine And.intro (fun h=>?_) (fun j hj=>?_)
  .rw [h] at hr;exact absurd hr (by simp)
  by_cases hji:j=i
  .subst hji;exact hy.wpOp hi hS ⟨fun _=>hS,H⟩
  .have:=ready_mono hj hji
   rw [H.1] at this;exact absurd this (by simp)
 | succ fuel ih =>
  intro listed a w hfree hr hun hy hS H
  refine And.intro (fun h=>?_) (fun j hj=>?_)
  .rw [h] at hr;exact absurd hr (by simp)
  by_cases hji:j=i
  .subst hji;exact hy.wpOp hi hS ⟨fun _=>hS,H⟩
  have hi0:=(mem_ready.1 hr).1;have hjc:=aYi hj cs i hi0 hw hun;have hjL:j≠L:=fun e=>hjc (e ▸ hL);obtain ⟨hjun,oj,hoj,hall⟩:=mem_ready.1 hj
  have hnot:∀ e∈oj.after,Region.binds md e=true->e.on≠i:=fun e he hb heq=>by
   have h1:=hall e he hb;rw [heq] at h1
   rcases Nat.lt_or_ge i listed.size with h' | h'
   .simp [h'] at hi0 h1;rw [hi0] at h1;cases h1
   .simp [Array.getElem?_eq_none h'] at h1
  have h2:=wpOp_putIf hoj (hfree j oj hoj hji hjun hnot) (fun cs b=>hsel i oi cs b hi) (fun cs b=>hsel j oj cs b hoj) hQ hy (H.2 j (ready_mono hj hji));refine wpOp_mono (fun a' w' h3=>?_) h2
  obtain ⟨hy',hS',hrest⟩:=h3;have hs':=hS' hjL;refine ⟨fun _=>hs',ih _ a' w' ?_ (ready_mono hr (Ne.symm hji)) ?_ hy' hs' (by rw [Array.setIfInBounds_comm _ _ hji];exact hrest)⟩
  .intro k ok hk hki hunk hno
   refine hfree k ok hk hki ?_ hno
   by_cases hjk:j=k
   .subst hjk;exact hjun
   .rw [getD_set_ne true hjk] at hunk;exact hunk
  .unfold aFa at hun ⊢
   rw [List.all_eq_true] at hun ⊢;intro c hc
   rw [getD_set_ne true (show j≠c from fun e=>hjc (by rw [e];exact hc))]
   exact hun c hc
theorem aA4.take {i:Nat} {oi:Oper} {v:Value} {fuel:Nat} {listed:Array Bool} {a:Act} {w:World} (cs:List Nat) (d:Option Tmp) (hi:ops[i]?=some oi) (hd:oi.dst=d)
  (hs:Region.noSelect ops=true) (hf:Region.free md ops listed i=true) (hr:(Region.ready md ops listed).contains i=true)
  (hL:cs.contains L=true) (hw:aPg md ops i cs=true) (hu:aFa listed cs=true)
  (hQ:∀ c a w,Q (.panic c) (a.put d v) w->Q (.panic c) a w) (hS:S w) (hy:YieldsIf P ops S oi v a)
  (h:aA4 P md ops Q S L fuel (listed.setIfInBounds i true) (a.put d v) w):aA4 P md ops Q S L (fuel+1) listed a w :=
 aA4.first cs hi (Region.noSelect_spec hs) (by simpa using hL) hw (by rw [hd];exact hQ) fuel listed a w (Region.free_spec hi hf) (by simpa using hr) hu hy hS (by rw [hd];exact h)
theorem aA4.one {i:Nat} {o:Oper} {fuel:Nat} {listed:Array Bool} {a:Act} {w:World} (hr:Region.ready md ops listed=[i]) (ho:ops[i]?=some o)
  (h:∀ K':Act->World->Prop,Shut (∀ a w,(i≠L->S w)->aA4 P md ops Q S L fuel (listed.setIfInBounds i true) a w->K' a w)->if Region.wanted o (yielded ops a.tmps)=true then Oper.wp P o a w K' Q else K' (a.put o.dst undef) w) :
  aA4 P md ops Q S L (fuel+1) listed a w:=by
 refine And.intro (fun h=>by rw [h] at hr;exact absurd hr (by simp)) (fun j hj=>?_)
 rw [hr] at hj;obtain rfl:j=i:=by simpa using hj
 exact wpOp_step ho (fun K' hK=>h K' (fun a w hS hW=>hK a w ⟨hS,hW⟩))
theorem aA4.done {listed:Array Bool} {a:Act} {w:World} (hr:Region.ready md ops listed=[]) (h:Q .normal a w):∀ fuel,aA4 P md ops Q S L fuel listed a w
 | 0=>⟨hr,h⟩
 | _+1=>⟨fun _=>h,by rw [hr];simp⟩
theorem aA4.start (S:World->Prop) (L:Nat) {id:Nat} {a:Act} {w:World} (hm:P.follows .mixedOrders=true)
  (h:aA4 P .any ops Q S L ops.size (Array.replicate ops.size false) a w.drew):(Code.region id ops true).wp P Q a w :=
 wp_region_any hm (aA4.any _ _ _ _ h)
end
open Go.ChangeShapes Go.WideShapes Go.ChangeAt Go.RowKit Go.Deep
theorem Tryz.own:ownKnob prog.godebug=none:=by kernel_rfl
theorem Tryz.laidOut:laidOutB prog=true:=by kernel_rfl
section
variable {H:Type} {enc:TypeId × Value->H} {P:Program} {w:World} {base:Nat} {spare:Nat->Bool} {held:Bool}
end
section
variable {H:Type} {enc:TypeId × Value->H} {P:Program}
theorem aNb (hl:laidOutB P=true) {W W':World} {sp:Nat->Bool} (hb:Below W.heap.size W W'):∀ {ts:List TypeId} {vs:List Value} {ds:List (DataW H)} {ps:List MemPlace},
  (∀ t∈ts,P.readableRec t=true/\t<P.types.size)->DataW.TrodAll enc P W 0 (fun _=>true) true ts vs ds ps->(∀ x∈ps,x.block<W.heap.size)->(∀ x∈ps,sp x.block=true)->DataW.TrodAll enc P W' 0 sp true ts vs ds ps
 | [],vs,ds,ps,_,h,_,_=>by
  obtain ⟨rfl,rfl,rfl⟩:=trodAll_nil h;exact trodAll_mk0
 | t :: ts,vs,ds,ps,hr,h,hlt,hsp=>by
  obtain ⟨v,vs',d,ds',p,q,rfl,rfl,rfl,hd,hrest⟩:=trodAll_cons h;refine trodAll_cons_mk ?_ (aNb hl hb (fun t ht=>hr t (by simp [ht])) hrest (fun x hx=>hlt x (by simp [hx])) (fun x hx=>hsp x (by simp [hx])))
  exact WideElems.Trod_stays hl (hr t (by simp)).1 (hr t (by simp)).2 hd (fun x hx=>hb.same (hlt x (by simp [hx]))) (fun x hx=>hsp x (by simp [hx]))
theorem bCr {f:Func} {s:ChangeSpec} {apart fresh handsOn again:Bool} {W W':World} {args:Array Value} {ds gs:List (DataW H)} {before:List MemPlace} {tb:TypeId}
  (hl:laidOutB P=true) (hvs:s.vars=[]) (hr0:(f.params.toList.all fun t=>P.readableRec t&&decide (t<P.types.size))=true) (hres:f.resultTypes=#[tb]) (htb:P.underlying tb=some .bool)
  (hW:DataW.Whole enc P f.params.toList s.vars apart W args.toList ds gs before)
  (hfn:(s.fn H (ds++gs)).results=[.lit (.bool true)]/\(s.fn H (ds++gs)).args=ds/\(s.fn H (ds++gs)).vars=[])
  (hb:Bel W W'):s.post enc P f apart fresh handsOn again W args (.bool true) W':=by
 have hr:∀ t∈f.params.toList,P.readableRec t=true/\t<P.types.size:=fun t ht=>by
  have:=List.all_eq_true.1 hr0 t ht;simpa using this
 have hb':Below W.heap.size W W':=hb;have hlt:∀ p∈before,p.block<W.heap.size:=fun p hp=>hW.lt p hp;have hold:∀ p∈before,(fun b=>decide (b<W.heap.size)) p.block=true:=fun p hp=>by simpa using hlt p hp
 have hWh:=hW;obtain ⟨pa,pv,hA,hV,hps,hz,hn⟩:=hW;rw [hvs] at hV;obtain ⟨hg,hpv⟩:=trodVars_none hV;subst hg;subst hpv;have hps':before=pa:=by simpa using hps
 subst hps'
 have hargs:∀ sp:Nat->Bool,(∀ p∈before,sp p.block=true)->DataW.TrodAll enc P W' 0 sp true f.params.toList args.toList (s.fn H (ds++[])).args before:=fun sp hsp=>by
  rw [hfn.2.1];exact aNb hl hb' hr hA hlt hsp
 have hvars:∀ sp:Nat->Bool,DataW.TrodVars enc P W' sp s.vars (s.fn H (ds++[])).vars []:=fun sp=>by
  rw [hvs,hfn.2.2];exact rfl
 have hresT:∀ (b:Nat) (sp:Nat->Bool) (hd:Bool),DataW.TrodAll enc P W' b sp hd f.resultTypes.toList ((Value.bool true).resultList f.resultTypes.size) (s.fn H (ds++[])).results []:=fun b sp hd=>by
  rw [hres,hfn.1];exact trodAll_cons_mk (shut_bool htb _) trodAll_mk0
 refine ⟨ds,[],before,[],before,[],hWh,hresT _ _ _,hargs _ hold,hvars _,World.keptBut_mono (fun p hp=>⟨hp,?_⟩) (hb'.frame (·∈before)),fun _=>?_⟩
 .right;simpa using hp
 .refine ⟨ok_one hres rfl (okWide_bool_mk htb _),_,_,([]++before)++[],⟨[]++before,[],trodAll_append (hargs _ (fun _ _=>rfl)) (hresT _ _ _),hvars _,rfl,?_,?_⟩,?_⟩
  .intro b off hp
   have hin:MemPlace.cell b off∈before:=by simpa using hp
   rw [hb'.frozen (hlt _ hin)];exact hz b off hin
  .intro ha
   have:=hn ha;simpa using this
  .intro p hp _
   simpa using hp
end
end Go.Proofs.YtmoebklkkjbigaaGreatDoor

