/- Merged. -/
import Derived.Test.YtmoebklkkjbigaaGreatDoorZ05
import Derived.Maps.Own
import Derived.Maps.OwnOps
import Derived.Maps.OwnSet
import Derived.Maps.Views
import Derived.WideKeyArr
import Derived.Maps.RangeWalk
import Derived.Deep.RegionHeld3
import Derived.Deep.WholeRow
import Derived.Laws.OwnMore
import Derived.Laws.CopyOwn
import Derived.Deep.RegionHeld
import Derived.RangeFuncNested
set_option linter.unusedSimpArgs false
set_option linter.unnecessarySimpa false
set_option linter.unusedVariables false
set_option maxRecDepth 100000
set_option maxHeartbeats 2000000
open Go.Proofs.Tryz

namespace Go.Proofs.YtmoebklkkjbigaaGreatDoor
def wOf (ls:List Link) (b:Int):Int:=match ls.find? (fun l=>l.to==b) with | some l=>l.weight | none=>0
def mOf (ports:List (List Link)) (v j:Nat) (a b:Int):Int :=
 if 0<=a/\a<(v:Int) then wOf (ports.getD a.toNat []) b else if a=(v:Int) then wOf ((ports.getD v []).take j) b else 0
def bMw (ports:List (List Link)):Bool :=
 (List.range ports.length).all (fun v=>aDe ports.length v (ports.getD v []))&&(List.range ports.length).all (fun v=>(ports.getD v []).all (aHb ⟨[],ports⟩ v))
structure SymOK (ports:List (List Link)):Prop where
 links:∀ v,(h:v<ports.length)->aDe ports.length v ports[v]=true
 back:∀ v,(h:v<ports.length)->∀ l∈ports[v],aHb ⟨[],ports⟩ v l=true
theorem bDr (ports:List (List Link)):bMw ports=true↔SymOK ports:=by
 unfold bMw;simp only [Bool.and_eq_true,List.all_eq_true,List.mem_range]
 constructor
 .rintro ⟨h6,h7⟩
  exact ⟨fun v hv=>by have:=h6 v hv;rwa [aA7 hv] at this,fun v hv l hl=>by have:=h7 v hv;rw [aA7 hv] at this;exact this l hl⟩
 .rintro ⟨h6,h7⟩
  exact ⟨fun v hv=>by rw [aA7 hv];exact h6 v hv,fun v hv=>by rw [aA7 hv];exact h7 v hv⟩
theorem aOs {ports:List (List Link)} (h:¬ SymOK ports):bMw ports=false:=by
 rw [Bool.eq_false_iff];intro hb;exact h ((bDr ports).1 hb)
theorem bEu (g:Graph):aF2 g=(decide (1<=g.ports.length/\g.ports.length<=24/\g.ids.length=g.ports.length)&&aSd g.ids&&bMw g.ports):=by
 unfold aF2 bMw;have:∀ v,aHb g v=aHb ⟨[],g.ports⟩ v:=fun v=>rfl;simp only [this,Bool.and_assoc]
theorem bOy {ls:List Link} {b:Int} (hw:∀ l∈ls,1<=l.weight) (h:wOf ls b=0):∀ l∈ls,l.to≠b:=by
 unfold wOf at h;cases hf:ls.find? (fun l=>l.to==b) with
 | none =>
  rw [List.find?_eq_none] at hf;intro l hl;simpa using hf l hl
 | some l =>
  rw [hf] at h;simp only [] at h
  have:=hw l (List.mem_of_find?_eq_some hf);omega
theorem aQ4 {ls:List Link} {b:Int} (h:wOf ls b≠0):∃ l∈ls,l.to=b/\wOf ls b=l.weight:=by
 unfold wOf at *;cases hf:ls.find? (fun l=>l.to==b) with
 | none=>rw [hf] at h;exact absurd rfl h
 | some l=>exact ⟨l,List.mem_of_find?_eq_some hf,by simpa using List.find?_some hf,rfl⟩
theorem aTt {ls:List Link} (hn:(ls.map Link.to).Nodup) {l:Link} (hl:l∈ls):wOf ls l.to=l.weight:=by
 unfold wOf;cases hf:ls.find? (fun k=>k.to==l.to) with
 | none =>
  rw [List.find?_eq_none] at hf;have:=hf l hl;simp at this
 | some k =>
  have h1:k.to=l.to:=by simpa using List.find?_some hf
  have h2:=List.mem_of_find?_eq_some hf;obtain ⟨i,hi,rfl⟩:=List.getElem_of_mem hl;obtain ⟨j,hj,rfl⟩:=List.getElem_of_mem h2
  have:i=j:=by
   rcases Nat.lt_trichotomy i j with h | h | h
   .exact absurd hn (aG3 h (by simpa using hj) (by simp [h1]))
   .exact h
   .exact absurd hn (aG3 h (by simpa using hi) (by simp [h1]))
  subst this;rfl
theorem bN1 {ls:List Link} {j:Nat} (h:j<ls.length) (hno:∀ l∈ls.take j,l.to≠ls[j].to) (b:Int):wOf (ls.take (j+1)) b=if b=ls[j].to then ls[j].weight else wOf (ls.take j) b:=by
 unfold wOf;rw [List.take_succ_eq_append_getElem h,List.find?_append]
 by_cases hb:b=ls[j].to
 .subst hb
  have:(ls.take j).find? (fun l=>l.to==ls[j].to)=none:=by
   rw [List.find?_eq_none];intro l hl;simpa using hno l hl
  rw [this,if_pos rfl];simp
 .rw [if_neg hb]
  cases hf:(ls.take j).find? (fun l=>l.to==b) with
  | some l=>simp
  | none =>
   have:(ls[j].to==b)=false:=by simp;exact fun h=>hb h.symm
   simp [this]
theorem bLv {ports:List (List Link)} {v j:Nat} (hv:v<ports.length) (hj:j<ports[v].length) (hno:∀ l∈ports[v].take j,l.to≠ports[v][j].to) (a b:Int) :
  mOf ports v (j+1) a b=if a=(v:Int)/\b=ports[v][j].to then ports[v][j].weight else mOf ports v j a b:=by
 unfold mOf;rw [aA7 hv]
 by_cases ha:a=(v:Int)
 .subst ha
  have hn:¬ (0<=(v:Int)/\(v:Int)<(v:Int)):=by omega
  simp only [if_neg hn,if_pos,true_and]
  rw [bN1 hj hno]
 .rw [if_neg (c:=a=(v:Int)/\_) (fun h=>ha h.1)]
  simp only [if_neg ha]
theorem bO9 {ports:List (List Link)} {v j:Nat} (hv:v<ports.length) (hj:ports[v].length<=j) (a b:Int):mOf ports v j a b=mOf ports (v+1) 0 a b:=by
 unfold mOf;rw [aA7 hv,List.take_of_length_le hj]
 by_cases ha:a=(v:Int)
 .subst ha
  rw [if_neg (by omega),if_pos rfl,if_pos (by omega),Int.toNat_natCast,aA7 hv]
 .by_cases h1:0<=a/\a<(v:Int)
  .rw [if_pos h1,if_pos (by omega)]
  .rw [if_neg h1,if_neg ha,if_neg (by omega)]
   split
   .simp [wOf]
   .rfl
theorem bId (ports:List (List Link)) (a b:Int):mOf ports 0 0 a b=0:=by
 unfold mOf;rw [if_neg (by omega)]
 split
 .simp [wOf]
 .rfl
theorem aY4 {ports:List (List Link)} {n v j:Nat} (h:v<ports.length) (hn:v<n) (b:Int):mOf ports n j (v:Int) b=wOf ports[v] b:=by
 unfold mOf;rw [if_pos (by omega),Int.toNat_natCast,aA7 h]
theorem bIc {ports:List (List Link)} {n:Nat} {a b:Int} (h:mOf ports n 0 a b≠0):0<=a/\a<(n:Int):=by
 unfold mOf at h;split at h
 .assumption
 .split at h
  .simp [wOf] at h
  .exact absurd rfl h
theorem bGb {ports:List (List Link)} (hl:∀ v,(h:v<ports.length)->aDe ports.length v ports[v]=true):SymOK ports↔∀ a b,mOf ports ports.length 0 a b≠0->mOf ports ports.length 0 b a=mOf ports ports.length 0 a b:=by
 constructor
 .intro hs a b hne
  obtain ⟨h0,h1⟩:=bIc hne;obtain ⟨v,rfl⟩:=Int.eq_ofNat_of_zero_le h0;have hv:v<ports.length:=by omega
  rw [aY4 hv hv] at hne ⊢;obtain ⟨l,hlm,rfl,he⟩:=aQ4 hne;rw [he];obtain ⟨k1,k2⟩:=aAu.1 (hl v hv);obtain ⟨t0,t1,_⟩:=aB3.1 (k1 l hlm);obtain ⟨t,ht⟩:=Int.eq_ofNat_of_zero_le t0;have htl:t<ports.length:=by omega
  have hb:=hs.back v hv l hlm;unfold aHb at hb;simp only [] at hb
  rw [ht,Int.toNat_natCast,aA7 htl,List.any_eq_true] at hb;obtain ⟨k,hk,hkk⟩:=hb;simp at hkk
  rw [ht,aY4 htl htl];have hu:=aTt (aAu.1 (hl t htl)).2 hk;rw [hkk.1] at hu;rw [hu,hkk.2]
 .intro h
  refine ⟨hl,fun v hv l hlm=>?_⟩
  obtain ⟨k1,k2⟩:=aAu.1 (hl v hv);obtain ⟨t0,t1,_,t3,_⟩:=aB3.1 (k1 l hlm);obtain ⟨t,ht⟩:=Int.eq_ofNat_of_zero_le t0;have htl:t<ports.length:=by omega
  have hw:=aTt k2 hlm;have h1:mOf ports ports.length 0 (v:Int) l.to=l.weight:=by rw [aY4 hv hv,hw]
  have h2:=h (v:Int) l.to (by rw [h1];omega)
  rw [h1,ht,aY4 htl htl] at h2;obtain ⟨k,hk,hk1,hk2⟩:=aQ4 (ls:=ports[t]) (b:=(v:Int)) (by omega)
  unfold aHb;simp only []
  rw [ht,Int.toNat_natCast,aA7 htl,List.any_eq_true];exact ⟨k,hk,by simp [hk1];omega⟩
open Go.RowKit Go.Maps
def aM1 (P:Program) (k e:TypeId) (w:World) (b n:Nat) (ks:List Lit):Prop :=
 ∃ D:DataW Unit,w.ownsMap P k (plainElem P e) b n D/\IsMap D/\∀ kl,∃ x,D.atKey kl (.lit (.bool false)) = .lit (.bool x)/\(x=true↔kl∈ks)
theorem aM1.made (P:Program) (k e:TypeId) (w:World):aM1 P k e (w.alloc (.map #[] 0)) w.heap.size 0 [] :=
 ⟨.map [],World.ownsMap_made w P k _,isMap_empty,fun kl=>⟨false,by simp [DataW.atKey],by simp⟩⟩
theorem aM1.kept {P:Program} {k e:TypeId} {w w':World} {b n:Nat} {ks:List Lit} {row:Option Nat} (h:aM1 P k e w b n ks) (hg:w.grownBy w' row) (hne:some b≠row):aM1 P k e w' b n ks:=by
 obtain ⟨D,h1,h2,h3⟩:=h;exact ⟨D,h1.kept hg hne,h2,h3⟩
theorem aM1.keep {P:Program} {k e:TypeId} {w w':World} {b n:Nat} {ks:List Lit} (h:aM1 P k e w b n ks) (hb:Bel w w'):aM1 P k e w' b n ks:=h.kept (hb.grownBy none) (by simp)
theorem aM1.lt {P:Program} {k e:TypeId} {w:World} {b n:Nat} {ks:List Lit} (h:aM1 P k e w b n ks):b<w.heap.size:=by
 obtain ⟨D,h1,_,_⟩:=h;exact h1.lt
theorem aN2 {P:Program} {e:TypeId} (he:P.underlying e=some .bool) {v:Value} {x:Bool} {ps:List MemPlace} (h:plainElem (H:=Unit) P e v=some (.lit (.bool x),ps)):v = .bool x:=by
 unfold plainElem at h;rw [he] at h;cases v <;> simp at h
 .rename_i b
  obtain ⟨h1,_⟩:=h;simp [h1]
theorem aM1.look {P:Program} {k e t:TypeId} {w:World} {b n:Nat} {ks:List Lit} (h:aM1 P k e w b n ks) (K:Keyed P k) (ht:P.underlying t=some (.map k e)) (he:P.underlying e=some .bool) (hz:(zeroValue e).run P w = .ok (.bool false) w)
  {key:Value} {kl:Lit} (hkey:keyOf P k key=some kl):∃ x,(Instr.lookup t (.map (some b)) key false).run P w = .ok (.bool x) w/\(x=true↔kl∈ks):=by
 obtain ⟨D,h1,_,h3⟩:=h;obtain ⟨v,ps,hrun,hv⟩:=h1.lookup K ht hz (plainElem_bool he false) hkey;obtain ⟨x,hx,hi⟩:=h3 kl;rw [hx] at hv;exact ⟨x,by rw [hrun,aN2 he hv],hi⟩
theorem aGm {P:Program} (w:World) {ops:Array Oper} {rest:List Oper} {o:Oper} {a:Act} {Q:Exit->Act->World->Prop}
  (hg:o.guard=none) (m x v:Operand) (t:TypeId) (hop:o.op=Op.mapUpdate t m x v)
  (k e:TypeId) (K:Keyed P k) (ht:P.underlying t=some (.map k e)) (he:P.underlying e=some .bool) (b n:Nat) (ks:List Lit)
  (hm:a.eval m = .map (some b)) (hown:aM1 P k e w b n ks) (hn:n<maxLen) (key:Value) (kl:Lit) (hx:a.eval x=key) (hv:a.eval v = .bool true) (hkey:keyOf P k key=some kl) (hkl:WideAt.IsKeyLit kl)
  (hK:∀ w',aM1 P k e w' b (n+1) (kl :: ks)->w.grownBy w' (some b)->wpList P ops Q rest (a.put o.dst undef) w') :
  wpList P ops Q (o :: rest) a w:=by
 obtain ⟨D,h1,h2,h3⟩:=hown;refine wpList_mapUpdate_own w hg m x v t hop k e K ht _ b n D hm h1 hn key (.bool true) kl hx hv hkey _ [] (plainElem_bool he true) ?_
 intro w' h4 h5
 refine hK w' ⟨_,h4,h2.put _ _,fun kl'=>?_⟩ h5
 by_cases hh:kl'=kl
 .subst hh
  exact ⟨true,by rw [atKey_put_same h2 hkl],by simp⟩
 .obtain ⟨x,hx,hi⟩:=h3 kl'
  exact ⟨x,by rw [atKey_put_other hh,hx],by rw [hi];simp [hh]⟩
theorem Bel.map {w wr w':World} (h:Bel w wr) {b:Nat} (hb:w.heap.size<=b) (hg:wr.grownBy w' (some b)):Bel w w':=h.grown hg (fun k hk=>by injection hk with hk;omega)
structure PairK (P:Program) (k e:TypeId):Prop where
 hu:P.underlying k=some (.array 2 e)
 he:P.underlying e=some (.int .i64)
 one:P.cellsOf e=1
 two:P.cellsOf k=2
 kt:P.keyType k=true
 sz:∃ m,P.types.size=m+1
def pk (a b:Int):Lit := .string (keyBytes [.int .i64 a,.int .i64 b])
def aSk (x:Int × Int):Value := .agg #[.int .i64 x.1,.int .i64 x.2]
theorem PairK.law {P:Program} {k e:TypeId} (A:PairK P k e):Keyed P k :=
 Keyed.of_law (WideMaps.ArrKey.law ⟨A.hu,by unfold Program.plainKey;rw [A.he],A.one,A.two⟩)
theorem PairK.keyOf {P:Program} {k e:TypeId} (A:PairK P k e) {a b:Int} (ha:(Lit.int .i64 a).wf=true) (hb:(Lit.int .i64 b).wf=true):Go.keyOf P k (aSk (a,b))=some (pk a b):=by
 obtain ⟨m,hm⟩:=A.sz;unfold Go.keyOf aSk;rw [A.hu];simp only []
 rw [A.kt];simp only [Value.formed,A.hu,A.two,Bool.true_and]
 rw [hm];simp only [Program.keyLits,A.hu,A.he,A.one,A.two,Value.cells,List.range,List.range.loop]
 simp [ha,hb,pk]
theorem PairK.inv {P:Program} {k e:TypeId} (A:PairK P k e) {v:Value} {l:Lit} (h:Go.keyOf P k v=some l):∃ x:Int × Int,v=aSk x/\(Lit.int .i64 x.1).wf=true/\(Lit.int .i64 x.2).wf=true/\l=pk x.1 x.2:=by
 obtain ⟨m,hm⟩:=A.sz;unfold Go.keyOf at h;rw [A.hu] at h;simp only [] at h
 rw [A.kt] at h;cases v with
 | agg cs =>
  simp only [Value.formed,A.hu,A.two,Bool.true_and] at h
  split at h
  .rename_i hs
   obtain ⟨l'⟩:=cs;simp at hs
   match l',hs with
   | [u,v],_ =>
    rw [hm] at h;cases u with
    | int q a =>
     cases v with
     | int q' b =>
      simp only [Program.keyLits,A.hu,A.he,A.one,A.two,Value.cells,List.range,List.range.loop] at h
      by_cases h1:q = .i64/\(Lit.int .i64 a).wf=true
      .by_cases h2:q' = .i64/\(Lit.int .i64 b).wf=true
       .obtain ⟨rfl,h1⟩:=h1
        obtain ⟨rfl,h2⟩:=h2;simp [h1,h2] at h
        exact ⟨(a,b),rfl,h1,h2,h.symm⟩
       .simp [h1,h2] at h
      .simp [h1] at h
     | _=>simp [Program.keyLits,A.hu,A.he,A.one,A.two,Value.cells,List.range,List.range.loop] at h
    | _=>simp [Program.keyLits,A.hu,A.he,A.one,A.two,Value.cells,List.range,List.range.loop] at h
  .cases h
 | _=>simp [Value.formed,A.hu] at h
theorem bNb {P:Program} {k e:TypeId} (A:PairK P k e) {a b c d:Int} (ha:(Lit.int .i64 a).wf=true) (hb:(Lit.int .i64 b).wf=true) (hc:(Lit.int .i64 c).wf=true) (hd:(Lit.int .i64 d).wf=true) (h:pk a b=pk c d):a=c/\b=d:=by
 have h1:=A.keyOf ha hb;have h2:=A.keyOf hc hd;rw [h] at h1;have:=A.law.inj h1 h2;simp [aSk] at this
 exact this
def aHs (P:Program) (k e:TypeId) (w:World) (b n:Nat) (D:DataW Unit) (M:Int->Int->Int):Prop :=
 w.ownsMap P k (plainElem P e) b n D/\IsMap D/\(∀ x y,(Lit.int .i64 x).wf=true->(Lit.int .i64 y).wf=true->D.atKey (pk x y) (.lit (.int .i64 0)) = .lit (.int .i64 (M x y))/\(has D (pk x y)=true↔M x y≠0))
theorem aHs.made (P:Program) (k e:TypeId) (w:World):aHs P k e (w.alloc (.map #[] 0)) w.heap.size 0 (.map []) (fun _ _=>0) :=
 ⟨World.ownsMap_made w P k _,isMap_empty,fun x y _ _=>⟨by simp [DataW.atKey],by simp [has]⟩⟩
theorem aHs.kept {P:Program} {k e:TypeId} {w w':World} {b n:Nat} {D:DataW Unit} {M:Int->Int->Int} {row:Option Nat} (h:aHs P k e w b n D M) (hg:w.grownBy w' row) (hne:some b≠row):aHs P k e w' b n D M :=
 ⟨h.1.kept hg hne,h.2⟩
theorem aHs.keep {P:Program} {k e:TypeId} {w w':World} {b n:Nat} {D:DataW Unit} {M:Int->Int->Int} (h:aHs P k e w b n D M) (hb:Bel w w'):aHs P k e w' b n D M:=h.kept (hb.grownBy none) (by simp)
theorem aHs.lookOk {P:Program} {k e t:TypeId} (A:PairK P k e) (ht:P.underlying t=some (.map k e)) {w:World} {b n:Nat} {D:DataW Unit} {M:Int->Int->Int} (h:aHs P k e w b n D M) (hz:(zeroValue e).run P w = .ok (.int .i64 0) w) {x y:Int} (hx:(Lit.int .i64 x).wf=true) (hy:(Lit.int .i64 y).wf=true) :
  (Instr.lookup t (.map (some b)) (aSk (x,y)) true).run P w = .ok (.tuple #[.int .i64 (M x y),.bool (decide (M x y≠0))]) w:=by
 obtain ⟨v,ps,hrun,hv⟩:=h.1.look_ok A.law ht hz (plainElem_int A.he (by decide)) (A.keyOf hx hy)
 obtain ⟨h1,h2⟩:=h.2.2 x y hx hy;rw [h1] at hv;obtain ⟨c,rfl,hc,_⟩:=plainElem_int_inv A.he hv;simp at hc
 rw [hrun,<- hc.1]
 congr 3
 rw [show has D (pk x y)=decide (M x y≠0) by rw [Bool.eq_iff_iff];simpa using h2]
theorem aHs.look {P:Program} {k e t:TypeId} (A:PairK P k e) (ht:P.underlying t=some (.map k e)) {w:World} {b n:Nat} {D:DataW Unit} {M:Int->Int->Int} (h:aHs P k e w b n D M) (hz:(zeroValue e).run P w = .ok (.int .i64 0) w) {x y:Int} (hx:(Lit.int .i64 x).wf=true) (hy:(Lit.int .i64 y).wf=true) :
  (Instr.lookup t (.map (some b)) (aSk (x,y)) false).run P w = .ok (.int .i64 (M x y)) w:=by
 obtain ⟨c,hrun,hc,_⟩:=h.1.lookup_int A.law ht A.he hz (A.keyOf hx hy);rw [(h.2.2 x y hx hy).1] at hc;simp at hc
 rw [hrun,hc]
def bP2 (M:Int->Int->Int) (x y c:Int):Int->Int->Int:=fun a b=>if a=x/\b=y then c else M a b
theorem aHs.put {P:Program} {k e:TypeId} (A:PairK P k e) {w':World} {b n:Nat} {D:DataW Unit} {M:Int->Int->Int} {x y c:Int} (hx:(Lit.int .i64 x).wf=true) (hy:(Lit.int .i64 y).wf=true) (hc:c≠0)
  (h2:IsMap D/\(∀ x y,(Lit.int .i64 x).wf=true->(Lit.int .i64 y).wf=true->D.atKey (pk x y) (.lit (.int .i64 0)) = .lit (.int .i64 (M x y))/\(has D (pk x y)=true↔M x y≠0)))
  (h:w'.ownsMap P k (plainElem P e) b n (D.put (pk x y) (.lit (.int .i64 c)))):aHs P k e w' b n (D.put (pk x y) (.lit (.int .i64 c))) (bP2 M x y c):=by
 refine ⟨h,h2.1.put _ _,fun a b ha hb=>?_⟩
 have hkl:WideAt.IsKeyLit (pk x y):=trivial
 by_cases he:a=x/\b=y
 .obtain ⟨rfl,rfl⟩:=he
  refine ⟨?_,?_⟩
  .rw [atKey_put_same h2.1 hkl];simp [bP2]
  .simp only [bP2]
   simp [hc]
   exact has_true_of_atKey (y := .lit (.int .i64 c)) (fun z=>atKey_put_same h2.1 hkl _ z)
 .have hne:pk a b≠pk x y:=fun h=>he (bNb A ha hb hx hy h)
  have hM:bP2 M x y c a b=M a b:=by unfold bP2;rw [if_neg he]
  obtain ⟨g1,g2⟩:=h2.2 a b ha hb;refine ⟨by rw [atKey_put_other hne,hM,g1],?_⟩
  rw [hM,<- g2];constructor
  .intro hh
   cases hD:has D (pk a b) with
   | true=>rfl
   | false =>
    have:has (D.put (pk x y) (.lit (.int .i64 c))) (pk a b)=false:=has_false_of_atKey (fun z=>by rw [atKey_put_other hne,atKey_of_not_has hD])
    rw [this] at hh;cases hh
  .intro hh
   cases hD:has (D.put (pk x y) (.lit (.int .i64 c))) (pk a b) with
   | true=>rfl
   | false =>
    have:has D (pk a b)=false:=has_false_of_atKey (fun z=>by rw [<- atKey_put_other hne (.lit (.int .i64 c)),atKey_of_not_has hD])
    rw [this] at hh;cases hh
open Go.RowKit
theorem aBn {p:Prg} (h:aCi p=true):p.name.size<=40/\p.vars.length<=10/\p.rules.length<=16/\(∀ x∈p.vars,x.name.size<=40)/\(∀ r∈p.rules,aP6 r=true):=by
 unfold aCi at h;simp at h
 obtain ⟨⟨⟨⟨h1,h2⟩,h3⟩,h4⟩,h5⟩:=h;exact ⟨h1,h2,h3,h4,h5⟩
theorem aEw {r:Rule} (h:aP6 r=true):r.name.size<=40/\r.sets.length<=10/\r.guard.length<=250/\∀ s∈r.sets,s.value.length<=250:=by
 unfold aP6 at h;simp at h
 obtain ⟨⟨⟨h1,h2⟩,h3⟩,h4⟩:=h;exact ⟨h1,h2,h3,h4⟩
theorem aG1 {g:Graph} (h:aC7 g=true):g.ids.length<=30/\g.ports.length<=30/\∀ r∈g.ports,r.length<=30:=by
 unfold aC7 at h;simp at h
 obtain ⟨⟨h1,h2⟩,h3⟩:=h;exact ⟨h1,h2,h3⟩
section
variable {P:Program}
theorem Blk.row {w:World} {B:Nat} {cs:Array Value} {t:TypeId} (h:Blk w B cs t) (cs':Array Value):Blk (w.setRow B cs') B cs' t:=setRow_heap w B cs cs' t _ h
theorem bKd {o:Oper} {a:Act} (w:World) {K:Act->World->Prop} {Q:Exit->Act->World->Prop} (t:TypeId) (x y:Operand) (ho:o.op = .makeSlice t x y)
  (base:Nat) (e:TypeId) (i:TypeInfo) (z:Value) (size:Nat) (ht:P.underlying t=some (.slice e)) (hi:P.info? e=some i) (hz:i.zero=some z) (hsize:i.size=size)
  (kl kc:IntKind) (n:Nat) (hx:a.eval x = .int kl (n:Int)) (hy:a.eval y = .int kc (n:Int)) (hbytes:i.bytes*n<=281474976710656) (h63:n<=maxLen) (hbase:base<=w.heap.size)
  (h:∀ g w',w'.ownsRow base e size (.slice (some ⟨g,0,none⟩) n n) n (madeCells z.cells (n*size)).toList->Bel w w'->K (a.put o.dst (.slice (some ⟨g,0,none⟩) n n)) w'):o.wp P a w K Q:=by
 obtain ⟨w',hr,h2,h3⟩:=run_make_full (P:=P) w base t e i z size ht hi hz hsize kl kc n hbytes h63 hbase;unfold Oper.wp execOp;simp only [ho,hx,hy,Sem.run_bind,hr,Result.andThen_ok,Sem.run_pure]
 exact h _ w' h2 ((Bel.refl w).grown h3 (fun k hk=>by cases hk))
theorem aEi {ops:Array Oper} {o:Oper} {a:Act} (w:World) {K:Act->World->Prop} {Q:Exit->Act->World->Prop} {E:Prop} (hgd:o.guard=none) (t:TypeId) (x y:Operand) (ho:o.op = .makeSlice t x y)
  (base:Nat) (e:TypeId) (i:TypeInfo) (z:Value) (size:Nat) (ht:P.underlying t=some (.slice e)) (hi:P.info? e=some i) (hz:i.zero=some z) (hsize:i.size=size)
  (kl kc:IntKind) (n:Nat) (hx:a.eval x = .int kl (n:Int)) (hy:a.eval y = .int kc (n:Int)) (hbytes:i.bytes*n<=281474976710656) (h63:n<=maxLen) (hbase:base<=w.heap.size)
  (h:∀ g w',w'.ownsRow base e size (.slice (some ⟨g,0,none⟩) n n) n (madeCells z.cells (n*size)).toList->Bel w w'->K (a.put o.dst (.slice (some ⟨g,0,none⟩) n n)) w') :
  if Region.wanted o (yielded ops a.tmps)=true then Oper.wp P o a w K Q else E:=by
 have hw:Region.wanted o (yielded ops a.tmps)=true:=by simp [Region.wanted,hgd]
 rw [if_pos hw];exact bKd w t x y ho base e i z size ht hi hz hsize kl kc n hx hy hbytes h63 hbase h
theorem aB6 {ops:Array Oper} {rest:List Oper} {o:Oper} {a:Act} (w:World) {Q:Exit->Act->World->Prop} (hgd:o.guard=none) (t:TypeId) (x y:Operand) (ho:o.op = .makeSlice t x y)
  (base:Nat) (e:TypeId) (i:TypeInfo) (z:Value) (size:Nat) (ht:P.underlying t=some (.slice e)) (hi:P.info? e=some i) (hz:i.zero=some z) (hsize:i.size=size)
  (kl kc:IntKind) (n:Nat) (hx:a.eval x = .int kl (n:Int)) (hy:a.eval y = .int kc (n:Int)) (hbytes:i.bytes*n<=281474976710656) (h63:n<=maxLen) (hbase:base<=w.heap.size)
  (h:∀ g w',w'.ownsRow base e size (.slice (some ⟨g,0,none⟩) n n) n (madeCells z.cells (n*size)).toList->Bel w w'->wpList P ops Q rest (a.put o.dst (.slice (some ⟨g,0,none⟩) n n)) w'):wpList P ops Q (o :: rest) a w :=
 wpList_plain hgd fun _ hK=>bKd w t x y ho base e i z size ht hi hz hsize kl kc n hx hy hbytes h63 hbase fun g w' h1 h2=>hK _ _ (h g w' h1 h2)
end
theorem aB5 (z:Value) (hz:z.cells=#[z]) (n:Nat):(madeCells z.cells (n*1)).toList=List.replicate n z:=by
 rw [hz,Nat.mul_one];apply List.ext_getElem?
 intro k
 simp only [madeCells,Array.toList_map,List.getElem?_map]
 by_cases hk:k<n
 .simp [hk,Nat.mod_one]
 .simp [hk]
def aHv (c:UInt8):Bool:=decide ((97<=(c.toNat:Int)/\(c.toNat:Int)<=122)∨(65<=(c.toNat:Int)/\(c.toNat:Int)<=90))
def aQp (c:UInt8):Bool:=decide (48<=(c.toNat:Int)/\(c.toNat:Int)<=57)
def aF3 (c:UInt8):Bool:=aHv c||aQp c||decide ((c.toNat:Int)=95)
theorem aKs (c:UInt8) (w:World):Calls prog 98 #[.int .u8 (c.toNat:Int)] w fun e w'=>e = .returned (.bool (aHv c))/\w=w':=by
 go_enter func98,ntmps98;go_wp2
 all_goals (go_ret;refine ⟨aA1 ?_,rfl⟩;unfold aHv;rw [Bool.eq_iff_iff];simp) <;> omega
theorem aX8 (c:UInt8) (w:World):Calls prog 100 #[.int .u8 (c.toNat:Int)] w fun e w'=>e = .returned (.bool (aQp c))/\w=w':=by
 go_enter func100,ntmps100;go_wp2
 all_goals (go_ret;refine ⟨aA1 ?_,rfl⟩;unfold aQp;rw [Bool.eq_iff_iff];simp) <;> omega
theorem aO0 (c:UInt8) (w:World):Calls prog 99 #[.int .u8 (c.toNat:Int)] w fun e w'=>e = .returned (.bool (aF3 c))/\w=w':=by
 cases h1:aHv c <;> cases h2:aQp c
 all_goals
  have HF:=aA0 (show aF3 c=(aHv c||aQp c||decide ((c.toNat:Int)=95)) from rfl)
  rw [h1,h2] at HF;go_enter func99,ntmps99
  go_wp2_with (first
   | (go_at_call 98;refine (aKs _ _).mono ?_;rintro e w' ⟨rfl,rfl⟩)
   | (go_at_call 100;refine (aX8 _ _).mono ?_;rintro e w' ⟨rfl,rfl⟩))
  all_goals (go_ret;refine ⟨aA1 ?_,rfl⟩;rw [HF.out];simp;try (rw [Bool.eq_iff_iff];simp))
def wordsL:List (List UInt8):=[[112,114,111,103,114,97,109],[118,97,114],[114,117,108,101],[98,111,111,108],[112,111,114,116],[116,114,117,101],[102,97,108,115,101],[110,111,110,101],[110],[105,100,115],[105,100],[100,101,103],[114,111,111,116],[113],[119,101,105,103,104,116],[98,97,99,107],[97,108,108],[115,111,109,101],[99,111,117,110,116],[102,105,114,115,116],[109,105,110],[109,97,120],[115,117,109],[109,101,120],[115,101,99,111,110,100],[104,101,97,100]]
def aH2 (s:ByteArray):Bool:=wordsL.any fun l=>s.toList==l
theorem aYz (s:ByteArray) (w:World):Calls prog 139 #[.string s] w fun e w'=>e = .returned (.bool (aH2 s))/\w=w':=by
 have HR:Hid (aH2 s=((s.toList==[112,114,111,103,114,97,109])||((s.toList==[118,97,114])||((s.toList==[114,117,108,101])||((s.toList==[98,111,111,108])||((s.toList==[112,111,114,116])||((s.toList==[116,114,117,101])||((s.toList==[102,97,108,115,101])||((s.toList==[110,111,110,101])||((s.toList==[110])||((s.toList==[105,100,115])||((s.toList==[105,100])||((s.toList==[100,101,103])||((s.toList==[114,111,111,116])||((s.toList==[113])||((s.toList==[119,101,105,103,104,116])||((s.toList==[98,97,99,107])||((s.toList==[97,108,108])||((s.toList==[115,111,109,101])||((s.toList==[99,111,117,110,116])||((s.toList==[102,105,114,115,116])||((s.toList==[109,105,110])||((s.toList==[109,97,120])||((s.toList==[115,117,109])||((s.toList==[109,101,120])||((s.toList==[115,101,99,111,110,100])||((s.toList==[104,101,97,100])))))))))))))))))))))))))))):=by
  show aH2 s=_
  simp only [aH2,wordsL,List.any_cons,List.any_nil,Bool.or_false]
 obtain ⟨b0,h0⟩:∃ b,(s.toList==[112,114,111,103,114,97,109])=b:=⟨_,rfl⟩;obtain ⟨b1,h1⟩:∃ b,(s.toList==[118,97,114])=b:=⟨_,rfl⟩;obtain ⟨b2,h2⟩:∃ b,(s.toList==[114,117,108,101])=b:=⟨_,rfl⟩;obtain ⟨b3,h3⟩:∃ b,(s.toList==[98,111,111,108])=b:=⟨_,rfl⟩;obtain ⟨b4,h4⟩:∃ b,(s.toList==[112,111,114,116])=b:=⟨_,rfl⟩;obtain ⟨b5,h5⟩:∃ b,(s.toList==[116,114,117,101])=b:=⟨_,rfl⟩;obtain ⟨b6,h6⟩:∃ b,(s.toList==[102,97,108,115,101])=b:=⟨_,rfl⟩;obtain ⟨b7,h7⟩:∃ b,(s.toList==[110,111,110,101])=b:=⟨_,rfl⟩;obtain ⟨b8,h8⟩:∃ b,(s.toList==[110])=b:=⟨_,rfl⟩;obtain ⟨b9,h9⟩:∃ b,(s.toList==[105,100,115])=b:=⟨_,rfl⟩;obtain ⟨b10,h10⟩:∃ b,(s.toList==[105,100])=b:=⟨_,rfl⟩;obtain ⟨b11,h11⟩:∃ b,(s.toList==[100,101,103])=b:=⟨_,rfl⟩;obtain ⟨b12,h12⟩:∃ b,(s.toList==[114,111,111,116])=b:=⟨_,rfl⟩;obtain ⟨b13,h13⟩:∃ b,(s.toList==[113])=b:=⟨_,rfl⟩;obtain ⟨b14,h14⟩:∃ b,(s.toList==[119,101,105,103,104,116])=b:=⟨_,rfl⟩;obtain ⟨b15,h15⟩:∃ b,(s.toList==[98,97,99,107])=b:=⟨_,rfl⟩;obtain ⟨b16,h16⟩:∃ b,(s.toList==[97,108,108])=b:=⟨_,rfl⟩;obtain ⟨b17,h17⟩:∃ b,(s.toList==[115,111,109,101])=b:=⟨_,rfl⟩;obtain ⟨b18,h18⟩:∃ b,(s.toList==[99,111,117,110,116])=b:=⟨_,rfl⟩;obtain ⟨b19,h19⟩:∃ b,(s.toList==[102,105,114,115,116])=b:=⟨_,rfl⟩;obtain ⟨b20,h20⟩:∃ b,(s.toList==[109,105,110])=b:=⟨_,rfl⟩;obtain ⟨b21,h21⟩:∃ b,(s.toList==[109,97,120])=b:=⟨_,rfl⟩;obtain ⟨b22,h22⟩:∃ b,(s.toList==[115,117,109])=b:=⟨_,rfl⟩;obtain ⟨b23,h23⟩:∃ b,(s.toList==[109,101,120])=b:=⟨_,rfl⟩;obtain ⟨b24,h24⟩:∃ b,(s.toList==[115,101,99,111,110,100])=b:=⟨_,rfl⟩;obtain ⟨b25,h25⟩:∃ b,(s.toList==[104,101,97,100])=b:=⟨_,rfl⟩;rw [h0,h1,h2,h3,h4,h5,h6,h7,h8,h9,h10,h11,h12,h13,h14,h15,h16,h17,h18,h19,h20,h21,h22,h23,h24,h25] at HR;go_enter func139,ntmps139;cases b0 with
 | true =>
  go_wp2;go_ret;exact ⟨aA1 (by rw [HR.out];simp),rfl⟩
 | false =>
 cases b1 with
 | true =>
  go_wp2;go_ret;exact ⟨aA1 (by rw [HR.out];simp),rfl⟩
 | false =>
 cases b2 with
 | true =>
  go_wp2;go_ret;exact ⟨aA1 (by rw [HR.out];simp),rfl⟩
 | false =>
 cases b3 with
 | true =>
  go_wp2;go_ret;exact ⟨aA1 (by rw [HR.out];simp),rfl⟩
 | false =>
 cases b4 with
 | true =>
  go_wp2;go_ret;exact ⟨aA1 (by rw [HR.out];simp),rfl⟩
 | false =>
 cases b5 with
 | true =>
  go_wp2;go_ret;exact ⟨aA1 (by rw [HR.out];simp),rfl⟩
 | false =>
 cases b6 with
 | true =>
  go_wp2;go_ret;exact ⟨aA1 (by rw [HR.out];simp),rfl⟩
 | false =>
 cases b7 with
 | true =>
  go_wp2;go_ret;exact ⟨aA1 (by rw [HR.out];simp),rfl⟩
 | false =>
 cases b8 with
 | true =>
  go_wp2;go_ret;exact ⟨aA1 (by rw [HR.out];simp),rfl⟩
 | false =>
 cases b9 with
 | true =>
  go_wp2;go_ret;exact ⟨aA1 (by rw [HR.out];simp),rfl⟩
 | false =>
 cases b10 with
 | true =>
  go_wp2;go_ret;exact ⟨aA1 (by rw [HR.out];simp),rfl⟩
 | false =>
 cases b11 with
 | true =>
  go_wp2;go_ret;exact ⟨aA1 (by rw [HR.out];simp),rfl⟩
 | false =>
 cases b12 with
 | true =>
  go_wp2;go_ret;exact ⟨aA1 (by rw [HR.out];simp),rfl⟩
 | false =>
 cases b13 with
 | true =>
  go_wp2;go_ret;exact ⟨aA1 (by rw [HR.out];simp),rfl⟩
 | false =>
 cases b14 with
 | true =>
  go_wp2;go_ret;exact ⟨aA1 (by rw [HR.out];simp),rfl⟩
 | false =>
 cases b15 with
 | true =>
  go_wp2;go_ret;exact ⟨aA1 (by rw [HR.out];simp),rfl⟩
 | false =>
 cases b16 with
 | true =>
  go_wp2;go_ret;exact ⟨aA1 (by rw [HR.out];simp),rfl⟩
 | false =>
 cases b17 with
 | true =>
  go_wp2;go_ret;exact ⟨aA1 (by rw [HR.out];simp),rfl⟩
 | false =>
 cases b18 with
 | true =>
  go_wp2;go_ret;exact ⟨aA1 (by rw [HR.out];simp),rfl⟩
 | false =>
 cases b19 with
 | true =>
  go_wp2;go_ret;exact ⟨aA1 (by rw [HR.out];simp),rfl⟩
 | false =>
 cases b20 with
 | true =>
  go_wp2;go_ret;exact ⟨aA1 (by rw [HR.out];simp),rfl⟩
 | false =>
 cases b21 with
 | true =>
  go_wp2;go_ret;exact ⟨aA1 (by rw [HR.out];simp),rfl⟩
 | false =>
 cases b22 with
 | true =>
  go_wp2;go_ret;exact ⟨aA1 (by rw [HR.out];simp),rfl⟩
 | false =>
 cases b23 with
 | true =>
  go_wp2;go_ret;exact ⟨aA1 (by rw [HR.out];simp),rfl⟩
 | false =>
 cases b24 with
 | true =>
  go_wp2;go_ret;exact ⟨aA1 (by rw [HR.out];simp),rfl⟩
 | false =>
 cases b25 with
 | true =>
  go_wp2;go_ret;exact ⟨aA1 (by rw [HR.out];simp),rfl⟩
 | false =>
 go_wp2;go_ret;exact ⟨aA1 (by rw [HR.out];rfl),rfl⟩
def aJw (s:ByteArray):Bool:=decide (1<=s.size/\s.size<=24)&&aHv (s.data.toList.headD 0)&&s.data.toList.all aF3 && !aH2 s
theorem bO1 (s:ByteArray) (h:0<s.size):s.data.toList.headD 0=s[0]:=by
 have h':0<s.data.toList.length:=by simpa using h
 show s.data.toList.headD 0=s.data.toList[0]
 match hl:s.data.toList,h' with
 | x :: l,_=>rfl
theorem aGi (s:ByteArray) (w:World) (hs:s.size<=1000000):Calls prog 106 #[.string s] w fun e w'=>e = .returned (.bool (aJw s))/\w=w':=by
 by_cases hn:1<=s.size/\s.size<=24
 .obtain ⟨hn1,hn2⟩:=hn
  have h0:0<s.size:=by omega
  have HF:Hid (aJw s=(aHv s[0]&&s.data.toList.all aF3 && !aH2 s)):=by
   show aJw s=_
   unfold aJw;rw [bO1 s h0,show decide (1<=s.size/\s.size<=24)=true by simp;omega];simp
  cases hl:aHv s[0] with
  | false =>
   rw [hl] at HF;go_enter func106,ntmps106
   go_wp2_with (go_at_call 98;refine (aKs s[0] _).mono ?_;rintro e w' ⟨rfl,rfl⟩)
   go_ret;exact ⟨aA1 (by rw [HF.out];rfl),rfl⟩
  | true =>
   rw [hl] at HF;go_enter func106,ntmps106
   go_wp2_with (go_at_call 98;refine (aKs s[0] _).mono ?_;rintro e w' ⟨rfl,rfl⟩)
   go_loopg [3,20] s.size (fun m _x z wr=>∃ j:Nat,j<=s.size/\m=s.size-j/\Hid ((s.data.toList.take j).all aF3=true)/\z = .int .i64 j/\w=wr)
   case atStart=>exact ⟨0,by omega,rfl,rfl,rfl,rfl⟩
   case round =>
    obtain ⟨j,hj,rfl,HK,rfl,rfl⟩:=hrel
    by_cases hlt:j<s.size
    .have hd0:decide (j<s.size)=true:=by simpa using hlt
     cases hw:aF3 s[j] with
     | false =>
      have HG:=aA0 (aCk (f:=aF3) (l:=s.data.toList) (by simpa using hlt) (show aF3 (s.data.toList[j]'(by simpa using hlt))=false from hw))
      go_wp2_with (go_at_call 99;refine (aO0 s[j] _).mono ?_;rintro e w' ⟨rfl,rfl⟩)
      go_ret;exact ⟨aA1 (by rw [HF.out,HG.out];rfl),rfl⟩
     | true =>
      have HG:=aA0 (aAo (f:=aF3) (l:=s.data.toList) (by simpa using hlt) HK.out (show aF3 (s.data.toList[j]'(by simpa using hlt))=true from hw))
      go_wp2_with (go_at_call 99;refine (aO0 s[j] _).mono ?_;rintro e w' ⟨rfl,rfl⟩)
      go_roundg (s.size-(j+1))
      case rel=>exact ⟨j+1,by omega,rfl,HG,by go_num,rfl⟩
      case measure=>omega
    .have hd0:decide (j<s.size)=false:=by simpa using hlt
     have HG:=aA0 (aC3 (f:=aF3) (l:=s.data.toList) (by simp;omega) HK.out)
     rw [HG.out] at HF
     go_wp2_with (go_at_call 139;refine (aYz s _).mono ?_;rintro e w' ⟨rfl,rfl⟩)
     all_goals (go_ret;exact ⟨aA1 (by rw [HF.out];simp),rfl⟩)
 .have HF:Hid (aJw s=false):=by
   show aJw s=false
   unfold aJw;rw [show decide (1<=s.size/\s.size<=24)=false by simpa using hn];rfl
  rcases (show s.size=0∨24<s.size by omega) with h | h
  .have h':s.size<1:=by omega
   clear hn h;go_enter func106,ntmps106;go_wp2;go_ret;exact ⟨aA1 HF.out.symm,rfl⟩
  .have h':1<=s.size:=by omega
   clear hn;go_enter func106,ntmps106;go_wp2;go_ret;exact ⟨aA1 HF.out.symm,rfl⟩
def aZk (a:Int):Int:=max (-1073741824) (min a 1073741824)
def Num (a:Int):Prop := -1073741824<=a/\a<=1073741824
def aB0 (b:Bool):Int:=if b then 1 else 0
theorem bDg (a:Int):Num (aZk a):=by unfold Num aZk;omega
theorem bOp {a:Int} (h:Num a):aZk a=a:=by unfold Num at h;unfold aZk;omega
theorem bK4 (b:Bool):aB0 b=0∨aB0 b=1:=by cases b <;> simp [aB0]
theorem aFp (b:Bool):Num (aB0 b):=by unfold Num;have:=bK4 b;omega
theorem aLu (b:Bool):aZk (aB0 b)=aB0 b:=bOp (aFp b)
def aKf (op a:Int):Int:=if op=18 then -a else aB0 (a==0)
def aK6 (a b:Int):Int:=if b=0 then 0 else if a.tmod b≠0/\(decide (a<0) != decide (b<0))=true then a.tdiv b-1 else a.tdiv b
theorem aTs (a b:Int) (ha:Num a) : -1073741824<=a.tdiv b/\a.tdiv b<=1073741824:=by
 have h:=Int.natAbs_tdiv_le_natAbs a b;unfold Num at ha;omega
theorem bBh (a b:Int) (ha:Num a) : -1073741825<=aK6 a b/\aK6 a b<=1073741824:=by
 unfold aK6;split
 .omega
 .have:=aTs a b ha
  split <;> omega
theorem aYe (a b:Int) (ha:Num a) (hb : -1073741825<=b/\b<=1073741825) : -1152921505680588800<=a*b/\a*b<=1152921505680588800:=by
 have h:(a*b).natAbs<=1073741824*1073741825:=by
  rw [Int.natAbs_mul];unfold Num at ha;exact Nat.mul_le_mul (by omega) (by omega)
 omega
def bH7 (op a b:Int):Int :=
 if op=30 then a*b
 else if op=31 then aK6 a b
 else if op=32 then (if b=0 then 0 else a-b*aK6 a b)
 else if op=33 then a+b
 else if op=34 then a-b
 else if op=35 then aB0 (a==b)
 else if op=36 then aB0 (a != b)
 else if op=37 then aB0 (decide (a<b))
 else if op=38 then aB0 (decide (a<=b))
 else if op=39 then aB0 (decide (b<a))
 else if op=40 then aB0 (decide (b<=a))
 else if op=41 then aB0 (a != 0&&b != 0)
 else aB0 (a != 0||b != 0)
def aBv (op a b:Int):Int:=aZk (bH7 op a b)
def aEc (l:List Int):Int:=(l.filter (fun a=>a != 0)).length
def aG8:List Int->Int->Int
 | [],_ => -1
 | a :: l,i=>if a≠0 then i else aG8 l (i+1)
def minF (l:List Int):Int:=l.foldl min 1073741824
def aOu:List Int->Int->Int->Int × Int
 | [],g,s=>(g,s)
 | a :: l,g,s=>if g<a then aOu l a g else aOu l g (max s a)
def bOw (l:List Int):Int × Int:=aOu l (-1073741824) (-1073741824)
def sumF (l:List Int):Int:=l.foldl (·+·) 0
def aSb (l:List Int) (k:Int):Nat:=(l.filter (fun x=>decide (k<=x))).length
def aO5 (l:List Int):Nat->Int->Int
 | 0,k=>k
 | f+1,k=>if k∈l then aO5 l f (k+1) else k
def bP1 (l:List Int):Int:=aO5 l (aSb l 0) 0
def aIm (op:Int) (l:List Int):Int :=
 if op=20 then aB0 (aEc l==l.length)
 else if op=21 then aB0 (decide (0<aEc l))
 else if op=22 then aEc l
 else if op=23 then aG8 l 0
 else if op=24 then minF l
 else if op=25 then (bOw l).1
 else if op=26 then aZk (sumF l)
 else if op=27 then bP1 l
 else if op=28 then (bOw l).2
 else l.headD 0
theorem bA4 (a:Int) (l:List Int):aEc (a :: l)=(if a=0 then 0 else 1)+aEc l:=by
 unfold aEc
 by_cases h:a=0
 .simp [h]
 .simp [h];omega
theorem bHj (l:List Int):0<=aEc l/\aEc l<=l.length:=by
 unfold aEc;have:=List.length_filter_le (fun a:Int=>a != 0) l;omega
theorem aUc {l:List Int} {k:Int} (h:k∈l):aSb l (k+1)<aSb l k:=by
 unfold aSb
 induction l with
 | nil=>cases h
 | cons x l ih =>
  have hmono:∀ l:List Int,(l.filter (fun x=>decide (k+1<=x))).length<=(l.filter (fun x=>decide (k<=x))).length:=by
   intro l
   induction l with
   | nil=>simp
   | cons y l ih =>
    simp only [List.filter_cons]
    by_cases h1:k+1<=y <;> by_cases h2:k<=y <;> simp [h1,h2] <;> omega
  rcases List.mem_cons.1 h with e | e
  .subst e
   have:=hmono l;simp only [List.filter_cons]
   rw [if_neg (by simp;omega),if_pos (by simp)]
   simp;omega
  .have:=ih e
   simp only [List.filter_cons]
   by_cases h1:k+1<=x <;> by_cases h2:k<=x <;> simp [h1,h2] <;> omega
theorem bCb (l:List Int) (k:Int):aSb l k<=l.length:=List.length_filter_le _ _
theorem bLw (l:List Int):∀ (f:Nat) (k:Int),aSb l k<=f->k<=aO5 l f k/\aO5 l f k<=k+f/\aO5 l f k ∉ l/\∀ j,k<=j->j<aO5 l f k->j∈l:=by
 intro f
 induction f with
 | zero =>
  intro k h
  have hk:k ∉ l:=fun hm=>by have:=aUc hm;omega
  exact ⟨Int.le_refl _,by simp [aO5],hk,fun j h1 h2=>by simp [aO5] at h2;omega⟩
 | succ f ih =>
  intro k h
  simp only [aO5]
  by_cases hk:k∈l
  .rw [if_pos hk]
   have hc:=aUc hk;obtain ⟨i1,i2,i3,i4⟩:=ih (k+1) (by omega)
   refine ⟨by omega,by omega,i3,fun j h1 h2=>?_⟩
   by_cases e:j=k
   .subst e;exact hk
   .exact i4 j (by omega) h2
  .rw [if_neg hk]
   exact ⟨Int.le_refl _,by omega,hk,fun j h1 h2=>by omega⟩
section
variable {P:Program} {ops:Array Oper} {Q:Exit->Act->World->Prop} {md:Region.Mode} {S:World->Prop} {L:Nat}
def aA6 (P:Program) (md:Region.Mode) (ops:Array Oper) (Q:Exit->Act->World->Prop) (S:World->Prop) (L:Nat):Nat->Array Bool->Act->World->Prop
 | 0,listed,a,w=>Region.ready md ops listed=[]/\Q .normal a w
 | fuel+1,listed,a,w=>(Region.ready md ops listed=[]->Q .normal a w) /\
   ∀ i∈Region.ready md ops listed,wpOp P ops Q i (fun a' w'=>(i≠L->S w')/\aA6 P md ops Q S L fuel (listed.setIfInBounds i true) a' w') a w
theorem aA6.any:∀ (fuel:Nat) (listed:Array Bool) (a:Act) (w:World),aA6 P md ops Q S L fuel listed a w->wpAny P md ops Q fuel listed a w
 | 0,_,_,_,h=>h
 | fuel+1,_,_,_,h=>⟨h.1,fun i hi=>wpOp_mono (fun a' w' k=>aA6.any fuel _ a' w' k.2) (h.2 i hi)⟩
def aS5 (md:Region.Mode) (ops:Array Oper):Nat->List Nat->Bool
 | _,[]=>true
 | i,c :: cs=>(match ops[c]? with | some o=>o.after.any (fun e=>Region.binds md e&&e.on==i) | none=>false)&&aS5 md ops c cs
def aFx (listed:Array Bool) (cs:List Nat):Bool:=cs.all fun c => !(listed.getD c true)
theorem aYl {listed:Array Bool} {j:Nat} (hj:j∈Region.ready md ops listed) (cs:List Nat):∀ i,listed.getD i true=false->aS5 md ops i cs=true->aFx listed cs=true->j ∉ cs:=by
 induction cs with
 | nil=>intro i _ _ _ h;cases h
 | cons c cs ih =>
  intro i hi hw hu hm
  simp only [aS5,Bool.and_eq_true] at hw
  simp only [aFx,List.all_cons,Bool.and_eq_true] at hu
  have hc:listed.getD c true=false:=by simpa using hu.1
  rcases List.mem_cons.1 hm with rfl | hm
  .obtain ⟨_,oj,hoj,hall⟩:=mem_ready.1 hj
   have h1:=hw.1;rw [hoj] at h1;simp only [Array.any_eq_true'] at h1
   obtain ⟨e,he,hb⟩:=h1;simp only [Bool.and_eq_true,beq_iff_eq] at hb
   have h2:=hall e he hb.1;rw [hb.2] at h2
   rcases Nat.lt_or_ge i listed.size with h' | h'
   .simp [h'] at hi h2;rw [hi] at h2;cases h2
   .simp [Array.getElem?_eq_none h'] at h2
  .exact ih c hc hw.2 hu.2 hm
theorem aA6.first {i:Nat} {oi:Oper} {v:Value} (cs:List Nat) (hi:ops[i]?=some oi) (hsel:∀ (j:Nat) (o:Oper) cs b,ops[j]?=some o->o.op ≠ .select cs b)
  (hL:L∈cs) (hw:aS5 md ops i cs=true)
  (hQ:∀ c a w,Q (.panic c) (a.put oi.dst v) w->Q (.panic c) a w) (fuel:Nat):∀ (listed:Array Bool) (a:Act) (w:World),
   (∀ j oj,ops[j]?=some oj->j≠i->listed.getD j true=false->(∀ e∈oj.after,Region.binds md e=true->e.on≠i)->oi.apart ops oj=true) ->
   i∈Region.ready md ops listed->aFx listed cs=true->YieldsIf P ops S oi v a->S w ->
   aA6 P md ops Q S L fuel (listed.setIfInBounds i true) (a.put oi.dst v) w->aA6 P md ops Q S L (fuel+1) listed a w:=by
 induction fuel with
 | zero =>
  intro listed a w _ hr _ hy hS H
  refine And.intro (fun h=>?_) (fun j hj=>?_)
  .rw [h] at hr;exact absurd hr (by simp)
  by_cases hji:j=i
  .subst hji;exact hy.wpOp hi hS ⟨fun _=>hS,H⟩
  .have:=ready_mono hj hji
   rw [H.1] at this;exact absurd this (by simp)
 | succ fuel ih =>
  intro listed a w hfree hr hun hy hS H
  refine And.intro (fun h=>?_) (fun j hj=>?_)
  .rw [h] at hr;exact absurd hr (by simp)
  by_cases hji:j=i
  .subst hji;exact hy.wpOp hi hS ⟨fun _=>hS,H⟩
  have hi0:=(mem_ready.1 hr).1;have hjc:=aYl hj cs i hi0 hw hun;have hjL:j≠L:=fun e=>hjc (e ▸ hL);obtain ⟨hjun,oj,hoj,hall⟩:=mem_ready.1 hj
  have hnot:∀ e∈oj.after,Region.binds md e=true->e.on≠i:=fun e he hb heq=>by
   have h1:=hall e he hb;rw [heq] at h1
   rcases Nat.lt_or_ge i listed.size with h' | h'
   .simp [h'] at hi0 h1;rw [hi0] at h1;cases h1
   .simp [Array.getElem?_eq_none h'] at h1
  have h2:=wpOp_putIf hoj (hfree j oj hoj hji hjun hnot) (fun cs b=>hsel i oi cs b hi) (fun cs b=>hsel j oj cs b hoj) hQ hy (H.2 j (ready_mono hj hji));refine wpOp_mono (fun a' w' h3=>?_) h2
  obtain ⟨hy',hS',hrest⟩:=h3;have hs':=hS' hjL;refine ⟨fun _=>hs',ih _ a' w' ?_ (ready_mono hr (Ne.symm hji)) ?_ hy' hs' (by rw [Array.setIfInBounds_comm _ _ hji];exact hrest)⟩
  .intro k ok hk hki hunk hno
   refine hfree k ok hk hki ?_ hno
   by_cases hjk:j=k
   .subst hjk;exact hjun
   .rw [getD_set_ne true hjk] at hunk;exact hunk
  .unfold aFx at hun ⊢
   rw [List.all_eq_true] at hun ⊢;intro c hc
   rw [getD_set_ne true (show j≠c from fun e=>hjc (by rw [e];exact hc))]
   exact hun c hc
theorem aA6.take {i:Nat} {oi:Oper} {v:Value} {fuel:Nat} {listed:Array Bool} {a:Act} {w:World} (cs:List Nat) (d:Option Tmp) (hi:ops[i]?=some oi) (hd:oi.dst=d)
  (hs:Region.noSelect ops=true) (hf:Region.free md ops listed i=true) (hr:(Region.ready md ops listed).contains i=true)
  (hL:cs.contains L=true) (hw:aS5 md ops i cs=true) (hu:aFx listed cs=true)
  (hQ:∀ c a w,Q (.panic c) (a.put d v) w->Q (.panic c) a w) (hS:S w) (hy:YieldsIf P ops S oi v a)
  (h:aA6 P md ops Q S L fuel (listed.setIfInBounds i true) (a.put d v) w):aA6 P md ops Q S L (fuel+1) listed a w :=
 aA6.first cs hi (Region.noSelect_spec hs) (by simpa using hL) hw (by rw [hd];exact hQ) fuel listed a w (Region.free_spec hi hf) (by simpa using hr) hu hy hS (by rw [hd];exact h)
theorem aA6.one {i:Nat} {o:Oper} {fuel:Nat} {listed:Array Bool} {a:Act} {w:World} (hr:Region.ready md ops listed=[i]) (ho:ops[i]?=some o)
  (h:∀ K':Act->World->Prop,Shut (∀ a w,(i≠L->S w)->aA6 P md ops Q S L fuel (listed.setIfInBounds i true) a w->K' a w)->if Region.wanted o (yielded ops a.tmps)=true then Oper.wp P o a w K' Q else K' (a.put o.dst undef) w) :
  aA6 P md ops Q S L (fuel+1) listed a w:=by
 refine And.intro (fun h=>by rw [h] at hr;exact absurd hr (by simp)) (fun j hj=>?_)
 rw [hr] at hj;obtain rfl:j=i:=by simpa using hj
 exact wpOp_step ho (fun K' hK=>h K' (fun a w hS hW=>hK a w ⟨hS,hW⟩))
theorem aA6.done {listed:Array Bool} {a:Act} {w:World} (hr:Region.ready md ops listed=[]) (h:Q .normal a w):∀ fuel,aA6 P md ops Q S L fuel listed a w
 | 0=>⟨hr,h⟩
 | _+1=>⟨fun _=>h,by rw [hr];simp⟩
theorem aA6.start (S:World->Prop) (L:Nat) {id:Nat} {a:Act} {w:World} (hm:P.follows .mixedOrders=true)
  (h:aA6 P .any ops Q S L ops.size (Array.replicate ops.size false) a w.drew):(Code.region id ops true).wp P Q a w :=
 wp_region_any hm (aA6.any _ _ _ _ h)
end
def aHn (n:Nat) (h:Nat->Bool):Nat:=(List.range n).foldl (fun s v=>if h v then s|||2 ^ v else s) 0
theorem bJr (h:Nat->Bool):aHn 0 h=0:=rfl
theorem aIb (n:Nat) (h:Nat->Bool):aHn (n+1) h=if h n then aHn n h|||2 ^ n else aHn n h:=by
 unfold aHn;rw [List.range_succ,List.foldl_append];rfl
theorem aFw (n:Nat) (h:Nat->Bool) (v:Nat):(aHn n h).testBit v=(decide (v<n)&&h v):=by
 induction n with
 | zero=>simp [bJr]
 | succ n ih =>
  rw [aIb]
  by_cases hv:v=n
  .subst hv
   cases hh:h v with
   | false=>simp [ih]
   | true=>simp [Nat.testBit_or,Nat.testBit_two_pow_self]
  .have e:decide (v<n+1)=decide (v<n):=by rw [decide_eq_decide];omega
   rw [e];cases hh:h n with
   | false=>simpa using ih
   | true =>
    simp only [if_true,Nat.testBit_or,ih,Nat.testBit_two_pow]
    have:decide (n=v)=false:=by simp;omega
    rw [this,Bool.or_false]
theorem aVs (n:Nat) (h:Nat->Bool):aHn n h<2 ^ n:=by
 apply Nat.lt_pow_two_of_testBit
 intro i hi
 rw [aFw,decide_eq_false (by omega)];rfl
theorem aN5 {n:Nat} (h:Nat->Bool) (hn:n<=32):aHn n h<4294967296 :=
 Nat.lt_of_lt_of_le (aVs n h) (Nat.pow_le_pow_right (n:=2) (by decide) hn)
def aB1 (S T:Nat):Bool:=(List.range 32).all fun i => !S.testBit i||T.testBit i
def hasB (S:Nat) (x:Int):Bool:=decide (0<=x)&&decide (x<32)&&S.testBit x.toNat
theorem aV1 {S T:Nat} (hS:S<4294967296) (hT:T<4294967296) (h:∀ v,v<32->S.testBit v=T.testBit v):S=T:=by
 refine Nat.eq_of_testBit_eq fun v=>?_
 rcases Nat.lt_or_ge v 32 with hv | hv
 .exact h v hv
 .have e:(4294967296:Nat)<=2 ^ v:=Nat.pow_le_pow_right (n:=2) (i:=32) (by decide) hv
  rw [Nat.testBit_lt_two_pow (Nat.lt_of_lt_of_le hS e),Nat.testBit_lt_two_pow (Nat.lt_of_lt_of_le hT e)]
theorem aAf {S T:Nat}:aB1 S T=true↔∀ v,v<32->S.testBit v=true->T.testBit v=true:=by
 unfold aB1;simp only [List.all_eq_true,List.mem_range,Bool.or_eq_true,Bool.not_eq_true']
 constructor
 .intro h v hv hS
  rcases h v hv with h | h
  .rw [h] at hS;cases hS
  .exact h
 .intro h v hv
  cases hb:S.testBit v with
  | false=>exact .inl rfl
  | true=>exact .inr (h v hv hb)
theorem aGv {S v:Nat} (hS:S<4294967296) (h:S.testBit v=true):v<32:=by
 rcases Nat.lt_or_ge v 32 with hv | hv
 .exact hv
 .have e:(4294967296:Nat)<=2 ^ v:=Nat.pow_le_pow_right (n:=2) (i:=32) (by decide) hv
  rw [Nat.testBit_lt_two_pow (Nat.lt_of_lt_of_le hS e)] at h;cases h
theorem aEp (i v:Nat):(2 ^ i).testBit v=decide (i=v):=Nat.testBit_two_pow
theorem aW6 {n:Nat} (h:n<4294967296):IntKind.u32.wrap (n:Int)=(n:Int):=by simp [IntKind.wrap,IntKind.bits,IntKind.signed];omega
theorem aLj {v:Nat} (h:v<32):2 ^ v<4294967296:=Nat.pow_lt_pow_right (a:=2) (by decide) h
theorem bv32 (S:Nat):BitVec.ofInt IntKind.u32.bits (S:Int)=BitVec.ofNat 32 S:=by
 simp [IntKind.bits]
theorem bNu {S T:Nat} (hS:S<4294967296) (hT:T<4294967296):bits .or .u32 (S:Int) (T:Int)=((S|||T:Nat):Int):=by
 have e:(BitVec.ofNat 32 S|||BitVec.ofNat 32 T).toNat=S|||T:=by
  simp only [BitVec.toNat_or,BitVec.toNat_ofNat]
  rw [Nat.mod_eq_of_lt (by omega),Nat.mod_eq_of_lt (by omega)]
 unfold bits;simp only [bv32]
 show IntKind.u32.wrap ((BitVec.ofNat 32 S|||BitVec.ofNat 32 T).toNat:Int)=_
 rw [e];exact aW6 (Nat.or_lt_two_pow (n:=32) hS hT)
theorem aCz {S T:Nat} (hS:S<4294967296) (_hT:T<4294967296):bits .and .u32 (S:Int) (T:Int)=((S&&&T:Nat):Int):=by
 have e:(BitVec.ofNat 32 S&&&BitVec.ofNat 32 T).toNat=S&&&T:=by
  simp only [BitVec.toNat_and,BitVec.toNat_ofNat]
  rw [Nat.mod_eq_of_lt (by omega),Nat.mod_eq_of_lt (by omega)]
 unfold bits;simp only [bv32]
 show IntKind.u32.wrap ((BitVec.ofNat 32 S&&&BitVec.ofNat 32 T).toNat:Int)=_
 rw [e];exact aW6 (Nat.and_lt_two_pow (n:=32) S _hT)
def aBq (S T:Nat):Nat:=(BitVec.ofNat 32 S&&&~~~BitVec.ofNat 32 T).toNat
theorem aMc (S T:Nat):aBq S T<4294967296:=(BitVec.ofNat 32 S&&&~~~BitVec.ofNat 32 T).isLt
theorem aEm (S T:Nat):bits .andNot .u32 (S:Int) (T:Int)=((aBq S T:Nat):Int):=by
 unfold bits;simp only [bv32]
 exact aW6 (aMc S T)
theorem aFz {S T:Nat} (hS:S<4294967296) (v:Nat):(aBq S T).testBit v=(S.testBit v && !T.testBit v):=by
 rcases Nat.lt_or_ge v 32 with hv | hv
 .unfold aBq
  rw [BitVec.testBit_toNat,BitVec.getLsbD_and,BitVec.getLsbD_not,BitVec.getLsbD_ofNat,BitVec.getLsbD_ofNat];simp [hv]
 .have e:(4294967296:Nat)<=2 ^ v:=Nat.pow_le_pow_right (n:=2) (i:=32) (by decide) hv
  rw [Nat.testBit_lt_two_pow (Nat.lt_of_lt_of_le (aMc S T) e),Nat.testBit_lt_two_pow (Nat.lt_of_lt_of_le hS e)];rfl
theorem aGn {S T:Nat} (hS:S<4294967296):(aBq S T==0)=aB1 S T:=by
 rw [Bool.eq_iff_iff,beq_iff_eq,aAf];constructor
 .intro h v _ hv
  have:=aFz (T:=T) hS v;rw [h,Nat.zero_testBit,hv] at this;simpa using this.symm
 .intro h
  refine Nat.eq_of_testBit_eq fun v=>?_
  rw [aFz hS,Nat.zero_testBit];cases hb:S.testBit v with
  | false=>rfl
  | true=>rw [h v (aGv hS hb) hb];rfl
theorem bOs (S v:Nat):(S >>> v)&&&1=(S.testBit v).toNat:=by
 rw [Nat.and_one_is_mod,Nat.shiftRight_eq_div_pow,Nat.testBit_eq_decide_div_mod_eq];have:=Nat.mod_lt (S / 2 ^ v) (show 0<2 by decide)
 by_cases h:S / 2 ^ v % 2=1
 .rw [h];simp
 .have:S / 2 ^ v % 2=0:=by omega
  rw [this];simp
theorem bHa {S v:Nat} (hS:S<4294967296):bits .and .u32 ((S:Int) / 2 ^ v) 1=((S.testBit v).toNat:Int):=by
 have h1:(S:Int) / 2 ^ v=((S >>> v:Nat):Int):=by rw [Nat.shiftRight_eq_div_pow];simp
 rw [h1,show (1:Int)=((1:Nat):Int) from rfl,aCz (by have:=Nat.shiftRight_le S v;omega) (by decide),bOs]
theorem aKl {S v:Nat} (hS:S<4294967296) (hv:v<32):bits .or .u32 (S:Int) (2 ^ v % 4294967296)=((S|||2 ^ v:Nat):Int):=by
 have h:=aLj hv
 have e:(2:Int) ^ v % 4294967296=((2 ^ v:Nat):Int):=by
  have e2:(2:Int) ^ v=((2 ^ v:Nat):Int):=by rw [Int.natCast_pow];rfl
  rw [e2];exact Int.emod_eq_of_lt (b:=4294967296) (Int.natCast_nonneg _) (Int.ofNat_lt.2 h)
 rw [e,bNu hS h]
theorem bIp (f:FuncId) (caps:Array Value) (hp:Nat->Bool) (n:Nat) (w:World)
  (hf:∀ v w',v<n->Bel w w'->Calls prog f (#[.int .i64 (v:Int)]++caps) w' fun e w2=>e = .returned (.bool (hp v))/\Bel w' w2)
  (hcall:∀ a w',(callFunc f (#[a]++caps)).run prog w' = .ok (.enter f (#[a]++caps)) w') (hn:n<=24) :
  Calls prog 157 #[.int .i64 (n:Int),.func (.func f) #[] caps] w fun e w'=>e = .returned (.int .u32 (aHn n hp:Nat))/\Bel w w':=by
 have HF:=aA0 hf;clear hf;go_enter func157,ntmps157
 go_wp2_with fail
 have HB:=Bel.refl w
 go_loopg [5,6,8] n (fun m s _x z wr=>∃ v:Nat,v<=n/\m=n-v/\z = .int .i64 v/\s = .int .u32 (aHn v hp:Nat)/\Bel w wr)
 case atStart=>exact ⟨0,by omega,rfl,rfl,rfl,HB⟩
 case round =>
  clear HB;obtain ⟨v,hv,rfl,rfl,rfl,HB⟩:=hrel
  by_cases hlt:v<n
  .have hd0:decide (v<n)=true:=by simpa using hlt
   have hsl:=aN5 hp (show v<=32 by omega)
   cases hb:hp v with
   | true =>
    go_wp2_with (((with_reducible refine (HF.out _ _ hlt HB).mono ?_);rintro e w' ⟨rfl,hbb⟩;rw [hb];replace HB:=HB.trans hbb;clear hbb))
    go_roundg (n-(v+1))
    case rel=>exact ⟨v+1,by omega,rfl,by go_num,by rw [aIb,hb,if_pos rfl,aKl hsl (by omega)],HB⟩
    case measure=>omega
   | false =>
    go_wp2_with (((with_reducible refine (HF.out _ _ hlt HB).mono ?_);rintro e w' ⟨rfl,hbb⟩;rw [hb];replace HB:=HB.trans hbb;clear hbb))
    go_roundg (n-(v+1))
    case rel=>exact ⟨v+1,by omega,rfl,by go_num,by rw [aIb,hb];rfl,HB⟩
    case measure=>omega
  .have hd0:decide (v<n)=false:=by simpa using hlt
   obtain rfl:v=n:=by omega
   go_wp2_with fail
   go_ret;exact ⟨rfl,HB⟩
structure Agr (E:Nat->Prop) (A B:World):Prop where
 os:B.os=A.os
 tape:B.tape=A.tape
 output:B.output=A.output
 size:A.heap.size<=B.heap.size
 block:∀ k,k<A.heap.size->¬ E k->B.heap[k]?=A.heap[k]?
theorem Agr.refl (E:Nat->Prop) (A:World):Agr E A A:=⟨rfl,rfl,rfl,Nat.le_refl _,fun _ _ _=>rfl⟩
theorem Agr.mono {E E':Nat->Prop} {A B:World} (h:Agr E A B) (hE:∀ k,E k->E' k):Agr E' A B :=
 ⟨h.os,h.tape,h.output,h.size,fun k hk hn=>h.block k hk (fun e=>hn (hE k e))⟩
theorem Agr.trans {E:Nat->Prop} {A B C:World} (h:Agr E A B) (k:Agr E B C):Agr E A C :=
 ⟨k.os.trans h.os,k.tape.trans h.tape,k.output.trans h.output,Nat.le_trans h.size k.size,fun i hi hn=>(k.block i (Nat.lt_of_lt_of_le hi h.size) hn).trans (h.block i hi hn)⟩
theorem Agr.alloc (E:Nat->Prop) (A:World) (o:Obj):Agr E A (A.alloc o) :=
 ⟨rfl,rfl,rfl,by simp,fun k hk _=>Below.heap_alloc A o k hk⟩
theorem Agr.putObj {E:Nat->Prop} (A:World) (l:Nat) (o:Obj) (hl:E l):Agr E A (A.putObj l o) :=
 ⟨rfl,rfl,rfl,by simp,fun k _ hn=>World.putObj_heap_other (fun e=>hn (e ▸ hl))⟩
theorem Agr.setCell {E:Nat->Prop} (A:World) (p:Addr) (v:Value) (hl:E p.block):Agr E A (A.setCell p v) :=
 ⟨rfl,rfl,rfl,by simp,fun k _ hn=>Below.heap_setCell A p v k (fun e=>hn (e ▸ hl))⟩
def aBg (E:Nat->Prop) (A B:World):Prop:=A.heap.size<=B.heap.size/\∀ k,k<A.heap.size->E k->B.heap[k]?=A.heap[k]?
def orE (E R:Nat->Prop) (k:Nat):Prop:=E k∨R k
def bPr {α:Type} (E:Nat->Prop) (I:List α->World->Prop) (Ix:Code->List α->World->Prop) (xs:List α) (W:World):Exit->Act->World->Prop
 | .normal,_,W'=>aBg E W W'/\I xs W'
 | .ret,_,W'=>aBg E W W'/\Ix .ret xs W'
 | .exit id,_,W'=>aBg E W W'/\Ix (.exit id) xs W'
 | .goto t,_,W'=>aBg E W W'/\Ix (.goto t) xs W'
 | .panic _,_,_=>False
 | .outgrown,_,_=>False
def bKp {α:Type} (F:Fence) (n:Nat) (P:Program) (g:Nat) (lb:Array Value) (encs:α->Array Value) (Bs Rs:Nat->Prop) (S:List α) (w:World):Prop :=
 ∀ (l:Nat) (J Jx:List α->World->Prop) (W:World),Bel w W->(∀ s A B,J s A->Agr Bs A B->J s B)->(∀ s A B,Jx s A->Agr Bs A B->Jx s B) ->
  (∀ pre x W1,pre++[x] <+: S->J pre W1->YieldAt F (n-1) P l (encs x) W1 fun e W' =>
   (e = .returned (.bool true)/\J (pre++[x]) W'/\aBg (orE Bs Rs) W1 W')∨(e = .returned (.bool false)/\Jx (pre++[x]) W')) ->
  J [] W ->
  CallsIn F n P g (#[.func (.yield l) #[] #[]]++lb) W fun e W'=>(∃ v,e = .returned v)/\(J S W'∨∃ pre,pre <+: S/\Jx pre W')
variable {F:Fence} {n:Nat} {P:Program}
theorem aFq {α:Type} {g:Operand} {ps:Array Tmp} {assign body:Code} {Q:Exit->Act->World->Prop} {a:Act} {w:World}
  (hro:F.round=none) (h1:1<=n) {gf:Nat} {lb:Array Value} (hg:a.eval g = .func (.func gf) #[] lb) (hFg:F.fn gf) (eg:∀ args w,(callFunc gf args).run P w = .ok (.enter gf args) w)
  {encs:α->Array Value} {Bs Rs:Nat->Prop} {S:List α} (hseq:bKp F (n-1) P gf lb encs Bs Rs S w) (hBs:∀ k,Bs k->k<w.heap.size) (hRs:∀ k,Rs k->k<w.heap.size) (hps:∀ x,(encs x).size=ps.size)
  (E:Nat->Prop) (hE:∀ k,E k↔Bs k∨k=w.heap.size∨k=w.heap.size+1)
  (I:List α->World->Prop) (Ix:Code->List α->World->Prop) (hI:∀ s A B,I s A->Agr E A B->I s B) (hIx:∀ c s A B,Ix c s A->Agr E A B->Ix c s B) (h0:I [] w)
  (Ax:α->Act->World->Prop) (hAx:∀ x a' A B,Ax x a' A->Agr E A B->Ax x a' B)
  (hassign:∀ (pre:List α) (x:α) (W:World) (K:Act->World->Prop),pre++[x] <+: S->I pre W->w.heap.size+1<W.heap.size->(∀ a' W',aBg (orE E Rs) W W'->I pre W'->Ax x a' W'->K a' W') ->
   assign.wpIn (F.inRound (w.heap.size+1)) (n-1-1) P (Exit.then K (fun _ _ _=>False)) { tmps:=(ps.zip (encs x)).foldl (fun t (p,v)=>t.setIfInBounds p v) a.tmps,defers:=[] } W)
  (hbody:∀ (pre:List α) (x:α) (a':Act) (W:World),pre++[x] <+: S->I pre W->Ax x a' W->w.heap.size+1<W.heap.size->(∃ r,W.heap[w.heap.size+1]?=some (.loop r)) ->
   body.wpIn (F.inRound (w.heap.size+1)) (n-1-1) P (bPr (orE E Rs) I Ix (pre++[x]) W) a' W)
  (hdone:∀ (W:World),I S W->W.heap[w.heap.size]?=some (.deferred (some []))->Q .normal { a with defers:={ target := .collected w.heap.size,args:=#[] } :: a.defers } W)
  (hstop:∀ (c:Code) (pre:List α) (W:World),pre <+: S->Ix c pre W->W.heap[w.heap.size]?=some (.deferred (some []))->c.wpIn F n P Q { a with defers:={ target := .collected w.heap.size,args:=#[] } :: a.defers } W) :
  (Code.rangeFunc g ps assign body).wpIn F n P Q a w:=by
 have El:E (w.heap.size+1):=(hE _).2 (.inr (.inr rfl));have Ed:E w.heap.size:=(hE _).2 (.inr (.inl rfl));have nl:¬ Bs (w.heap.size+1):=fun h=>by have:=hBs _ h;omega
 have nek:∀ k,orE Bs Rs k->k<w.heap.size:=fun k h=>h.elim (hBs k) (hRs k);have up:∀ k,orE Bs Rs k->orE E Rs k:=fun k h=>h.elim (fun h => .inl ((hE k).2 (.inl h))) .inr;have nd:¬ Bs w.heap.size:=fun h=>by have:=hBs _ h;omega
 have sub:∀ {A B:World},Agr Bs A B->Agr E A B:=fun h=>h.mono (fun k hk=>(hE k).2 (.inl hk));refine wpIn_rangeFunc fun fn hfn=>?_
 rw [hro];obtain ⟨rec,hrec⟩:∃ rec:LoopState->Option Code->Loop,rec=fun st pe=>{ state:=st,pending:=pe,fn,tmps:=a.tmps,params:=ps,assign,body,defers:=w.heap.size }:=⟨_,rfl⟩
 have hL1:((w.alloc (.deferred (some []))).alloc (.loop (rec .ready none))).heap[w.heap.size+1]?=some (.loop (rec .ready none)):=by
  have:=World.alloc_heap_new (w.alloc (.deferred (some []))) (.loop (rec .ready none));rwa [World.size_alloc] at this
 have hK1:((w.alloc (.deferred (some []))).alloc (.loop (rec .ready none))).heap[w.heap.size]?=some (.deferred (some [])) :=
  (Below.heap_alloc _ _ _ (by simp)).trans (World.alloc_heap_new w _)
 have hI1:I [] ((w.alloc (.deferred (some []))).alloc (.loop (rec .ready none))):=hI _ _ _ (hI _ _ _ h0 (Agr.alloc E w _)) (Agr.alloc E _ _);have hb1:Bel w ((w.alloc (.deferred (some []))).alloc (.loop (rec .ready none))):=((Bel.refl w).alloc _).alloc _
 refine ⟨w.heap.size+1,[{ target := .collected w.heap.size,args:=#[] }],_,{ target := .fn (.func gf) lb,args:=#[.func (.yield (w.heap.size+1)) #[] #[]] },_,gf,
  #[.func (.yield (w.heap.size+1)) #[] #[]]++lb,_,by rw [run_enterLoop_outer],by simp only [resolve,hg];simp [go_sem];rfl,fun f' hf'=>by simp [Target.leads] at hf';subst hf';exact hFg,by simp [invoke,go_sem,eg];rfl,fun _=>h1,?_⟩
 revert hL1 hK1 hI1 hb1
 rw [hrec];intro hL1 hK1 hI1 hb1
 refine (hseq (w.heap.size+1)
  (fun pre W=>I pre W/\W.heap[w.heap.size+1]?=some (.loop (rec .ready none))/\W.heap[w.heap.size]?=some (.deferred (some [])))
  (fun pre W=>∃ c,Ix c pre W/\W.heap[w.heap.size+1]?=some (.loop (rec .done (some c)))/\W.heap[w.heap.size]?=some (.deferred (some [])))
  _ hb1 (fun s A B hs hg'=>⟨hI _ _ _ hs.1 (sub hg'),(hg'.block _ (Array.getElem?_eq_some_iff.1 hs.2.1).1 nl).trans hs.2.1,(hg'.block _ (Array.getElem?_eq_some_iff.1 hs.2.2).1 nd).trans hs.2.2⟩)
  (fun s A B hs hg'=>by
   obtain ⟨c,hc,hl,hk⟩:=hs
   exact ⟨c,hIx _ _ _ _ hc (sub hg'),(hg'.block _ (Array.getElem?_eq_some_iff.1 hl).1 nl).trans hl,(hg'.block _ (Array.getElem?_eq_some_iff.1 hk).1 nd).trans hk⟩)
  ?_ ⟨hI1,by rw [hrec];exact hL1,hK1⟩).mono ?_
 .-- one round
  rintro pre x W hpre ⟨hi,hl,hk⟩;have hlt:=(Array.getElem?_eq_some_iff.1 hl).1;have hy:=run_yield (P:=P) (args:=encs x) hl (by rw [hrec];exact hps x)
  rw [hrec] at hy;refine ⟨fn,_,assign,body,hy,roundIn_of_wpIn hfn (hassign pre x W _ hpre hi hlt ?_)⟩
  clear hy;intro a' Wa hsa hia hax
  have hl2:=(hsa.2 _ hlt (.inl El)).trans hl;have hk2:=(hsa.2 _ (by omega) (.inl Ed)).trans hk
  have hlta:=(Array.getElem?_eq_some_iff.1 hl2).1;refine ⟨_,run_beginRound hl2 (by rw [hrec]),?_⟩
  have agb:Agr E Wa (Wa.putObj (w.heap.size+1) (.loop { rec .ready none with state := .busy })):=Agr.putObj _ _ _ El
  have hl3:(Wa.putObj (w.heap.size+1) (.loop { rec .ready none with state := .busy })).heap[w.heap.size+1]?=some (.loop { rec .ready none with state := .busy }):=World.putObj_heap_same hlta
  have hk3:(Wa.putObj (w.heap.size+1) (.loop { rec .ready none with state := .busy })).heap[w.heap.size]?=some (.deferred (some [])):=(World.putObj_heap_other (by omega)).trans hk2
  have hsz:=agb.size
  have hsb:aBg (orE Bs Rs) W (Wa.putObj (w.heap.size+1) (.loop { rec .ready none with state := .busy })) :=
   ⟨Nat.le_trans hsa.1 hsz,fun k hk hB=>(World.putObj_heap_other (by have:=nek k hB;omega)).trans (hsa.2 k hk (up k hB))⟩
  refine wpIn_mono (hbody pre x a' _ hpre (hI _ _ _ hia agb) (hAx _ _ _ _ hax agb) (Nat.lt_of_lt_of_le hlta hsz) ⟨_,hl3⟩) ?_
  generalize Wa.putObj (w.heap.size+1) (.loop { rec .ready none with state := .busy })=Wb at *
  have fin:∀ (jump:Option Code) (W3:World),aBg (orE E Rs) Wb W3 ->
    (Instr.endRound (w.heap.size+1) jump).run P W3 = .ok (.bool jump.isNone) (W3.putObj (w.heap.size+1) (.loop (rec (if jump.isNone then .ready else .done) jump))) /\
    (W3.putObj (w.heap.size+1) (.loop (rec (if jump.isNone then .ready else .done) jump))).heap[w.heap.size+1]?=some (.loop (rec (if jump.isNone then .ready else .done) jump)) /\
    (W3.putObj (w.heap.size+1) (.loop (rec (if jump.isNone then .ready else .done) jump))).heap[w.heap.size]?=some (.deferred (some [])):=fun jump W3 h3=>by
   have hl4:=(h3.2 _ (by omega) (.inl El)).trans hl3
   have:=run_endRound (P:=P) jump hl4;rw [hrec] at this ⊢;exact ⟨this,World.putObj_heap_same (Array.getElem?_eq_some_iff.1 hl4).1,(World.putObj_heap_other (by omega)).trans ((h3.2 _ (by omega) (.inl Ed)).trans hk3)⟩
  rintro e a3 W3 hp;cases e with
  | normal =>
   obtain ⟨h3,hi3⟩:=hp;obtain ⟨hr,hl4,hk4⟩:=fin none W3 h3
   exact ⟨_,_,hr,.inl ⟨rfl,⟨hI _ _ _ hi3 (Agr.putObj _ _ _ El),hl4,hk4⟩,Nat.le_trans hsb.1 (Nat.le_trans h3.1 (Agr.putObj (E:=E) W3 _ _ El).size),fun k hk hB =>
    (World.putObj_heap_other (by have:=nek k hB;omega)).trans ((h3.2 k (Nat.lt_of_lt_of_le hk hsb.1) (up k hB)).trans (hsb.2 k hk hB))⟩⟩
  | ret =>
   obtain ⟨h3,hi3⟩:=hp;obtain ⟨hr,hl4,hk4⟩:=fin (some .ret) W3 h3;exact ⟨_,_,hr,.inr ⟨rfl,.ret,hIx _ _ _ _ hi3 (Agr.putObj _ _ _ El),hl4,hk4⟩⟩
  | exit id =>
   obtain ⟨h3,hi3⟩:=hp;obtain ⟨hr,hl4,hk4⟩:=fin (some (.exit id)) W3 h3;exact ⟨_,_,hr,.inr ⟨rfl,.exit id,hIx _ _ _ _ hi3 (Agr.putObj _ _ _ El),hl4,hk4⟩⟩
  | goto t =>
   obtain ⟨h3,hi3⟩:=hp;obtain ⟨hr,hl4,hk4⟩:=fin (some (.goto t)) W3 h3;exact ⟨_,_,hr,.inr ⟨rfl,.goto t,hIx _ _ _ _ hi3 (Agr.putObj _ _ _ El),hl4,hk4⟩⟩
  | panic ch=>exact hp.elim
  | outgrown=>exact hp.elim
 .-- behind the iterator
  rintro e W2 ⟨⟨v,rfl⟩,(⟨hi,hl,hk⟩ | ⟨pre,hSp,c,hi,hl,hk⟩)⟩
  .exact ⟨none,_,by have:=run_endLoop (P:=P) hl (by rw [hrec];simp);rw [hrec] at this;exact this,hdone _ (hI _ _ _ hi (Agr.putObj _ _ _ El)) ((World.putObj_heap_other (by omega)).trans hk)⟩
  .exact ⟨some c,_,by have:=run_endLoop (P:=P) hl (by rw [hrec];simp);rw [hrec] at this;exact this,hstop c pre _ hSp (hIx _ _ _ _ hi (Agr.putObj _ _ _ El)) ((World.putObj_heap_other (by omega)).trans hk)⟩
theorem aZg {α:Type} {g:Operand} {ps:Array Tmp} {assign body:Code} {Q:Exit->Act->World->Prop} {a:Act} {w:World}
  {l₀:Nat} {r₀:Loop} (hro:F.round=some l₀) (hl₀:w.heap[l₀]?=some (.loop r₀)) (h1:1<=n) {gf:Nat} {lb:Array Value} (hg:a.eval g = .func (.func gf) #[] lb) (hFg:F.fn gf) (eg:∀ args w,(callFunc gf args).run P w = .ok (.enter gf args) w)
  {encs:α->Array Value} {Bs Rs:Nat->Prop} {S:List α} (hseq:bKp F (n-1) P gf lb encs Bs Rs S w) (hBs:∀ k,Bs k->k<w.heap.size) (hRs:∀ k,Rs k->k<w.heap.size) (hps:∀ x,(encs x).size=ps.size)
  (E:Nat->Prop) (hE:∀ k,E k↔Bs k∨k=w.heap.size)
  (I:List α->World->Prop) (Ix:Code->List α->World->Prop) (hI:∀ s A B,I s A->Agr E A B->I s B) (hIx:∀ c s A B,Ix c s A->Agr E A B->Ix c s B) (h0:I [] w)
  (Ax:α->Act->World->Prop) (hAx:∀ x a' A B,Ax x a' A->Agr E A B->Ax x a' B)
  (hassign:∀ (pre:List α) (x:α) (W:World) (K:Act->World->Prop),pre++[x] <+: S->I pre W->w.heap.size<W.heap.size->(∀ a' W',aBg (orE E Rs) W W'->I pre W'->Ax x a' W'->K a' W') ->
   assign.wpIn (F.inRound (w.heap.size)) (n-1-1) P (Exit.then K (fun _ _ _=>False)) { tmps:=(ps.zip (encs x)).foldl (fun t (p,v)=>t.setIfInBounds p v) a.tmps,defers:=[] } W)
  (hbody:∀ (pre:List α) (x:α) (a':Act) (W:World),pre++[x] <+: S->I pre W->Ax x a' W->w.heap.size<W.heap.size->(∃ r,W.heap[w.heap.size]?=some (.loop r)) ->
   body.wpIn (F.inRound (w.heap.size)) (n-1-1) P (bPr (orE E Rs) I Ix (pre++[x]) W) a' W)
  (hdone:∀ (W:World),I S W->Q .normal a W)
  (hstop:∀ (c:Code) (pre:List α) (W:World),pre <+: S->Ix c pre W->c.wpIn F n P Q a W) :
  (Code.rangeFunc g ps assign body).wpIn F n P Q a w:=by
 have El:E (w.heap.size):=(hE _).2 (.inr rfl);have nl:¬ Bs (w.heap.size):=fun h=>by have:=hBs _ h;omega
 have nek:∀ k,orE Bs Rs k->k<w.heap.size:=fun k h=>h.elim (hBs k) (hRs k);have up:∀ k,orE Bs Rs k->orE E Rs k:=fun k h=>h.elim (fun h => .inl ((hE k).2 (.inl h))) .inr;have sub:∀ {A B:World},Agr Bs A B->Agr E A B:=fun h=>h.mono (fun k hk=>(hE k).2 (.inl hk));refine wpIn_rangeFunc fun fn hfn=>?_
 rw [hro];obtain ⟨rec,hrec⟩:∃ rec:LoopState->Option Code->Loop,rec=fun st pe=>{ state:=st,pending:=pe,fn,tmps:=a.tmps,params:=ps,assign,body,defers:=r₀.defers }:=⟨_,rfl⟩
 have hL1:(w.alloc (.loop (rec .ready none))).heap[w.heap.size]?=some (.loop (rec .ready none)) :=
  World.alloc_heap_new w _
 have hI1:I [] (w.alloc (.loop (rec .ready none))):=hI _ _ _ h0 (Agr.alloc E w _);have hb1:Bel w (w.alloc (.loop (rec .ready none))):=(Bel.refl w).alloc _
 refine ⟨w.heap.size,[],_,{ target := .fn (.func gf) lb,args:=#[.func (.yield (w.heap.size)) #[] #[]] },_,gf,
  #[.func (.yield (w.heap.size)) #[] #[]]++lb,_,by rw [run_enterLoop_inner hl₀],by simp only [resolve,hg];simp [go_sem];rfl,fun f' hf'=>by simp [Target.leads] at hf';subst hf';exact hFg,by simp [invoke,go_sem,eg];rfl,fun _=>h1,?_⟩
 revert hL1 hI1 hb1
 rw [hrec];intro hL1 hI1 hb1
 refine (hseq (w.heap.size)
  (fun pre W=>I pre W/\W.heap[w.heap.size]?=some (.loop (rec .ready none)))
  (fun pre W=>∃ c,Ix c pre W/\W.heap[w.heap.size]?=some (.loop (rec .done (some c))))
  _ hb1 (fun s A B hs hg'=>⟨hI _ _ _ hs.1 (sub hg'),(hg'.block _ (Array.getElem?_eq_some_iff.1 hs.2).1 nl).trans hs.2⟩)
  (fun s A B hs hg'=>by
   obtain ⟨c,hc,hl⟩:=hs
   exact ⟨c,hIx _ _ _ _ hc (sub hg'),(hg'.block _ (Array.getElem?_eq_some_iff.1 hl).1 nl).trans hl⟩)
  ?_ ⟨hI1,by rw [hrec];exact hL1⟩).mono ?_
 .-- one round
  rintro pre x W hpre ⟨hi,hl⟩;have hlt:=(Array.getElem?_eq_some_iff.1 hl).1;have hy:=run_yield (P:=P) (args:=encs x) hl (by rw [hrec];exact hps x)
  rw [hrec] at hy;refine ⟨fn,_,assign,body,hy,roundIn_of_wpIn hfn (hassign pre x W _ hpre hi hlt ?_)⟩
  clear hy;intro a' Wa hsa hia hax
  have hl2:=(hsa.2 _ hlt (.inl El)).trans hl;have hlta:=(Array.getElem?_eq_some_iff.1 hl2).1;refine ⟨_,run_beginRound hl2 (by rw [hrec]),?_⟩
  have agb:Agr E Wa (Wa.putObj (w.heap.size) (.loop { rec .ready none with state := .busy })):=Agr.putObj _ _ _ El
  have hl3:(Wa.putObj (w.heap.size) (.loop { rec .ready none with state := .busy })).heap[w.heap.size]?=some (.loop { rec .ready none with state := .busy }):=World.putObj_heap_same hlta
  have hsz:=agb.size
  have hsb:aBg (orE Bs Rs) W (Wa.putObj (w.heap.size) (.loop { rec .ready none with state := .busy })) :=
   ⟨Nat.le_trans hsa.1 hsz,fun k hk hB=>(World.putObj_heap_other (by have:=nek k hB;omega)).trans (hsa.2 k hk (up k hB))⟩
  refine wpIn_mono (hbody pre x a' _ hpre (hI _ _ _ hia agb) (hAx _ _ _ _ hax agb) (Nat.lt_of_lt_of_le hlta hsz) ⟨_,hl3⟩) ?_
  generalize Wa.putObj (w.heap.size) (.loop { rec .ready none with state := .busy })=Wb at *
  have fin:∀ (jump:Option Code) (W3:World),aBg (orE E Rs) Wb W3 ->
    (Instr.endRound (w.heap.size) jump).run P W3 = .ok (.bool jump.isNone) (W3.putObj (w.heap.size) (.loop (rec (if jump.isNone then .ready else .done) jump))) /\
    (W3.putObj (w.heap.size) (.loop (rec (if jump.isNone then .ready else .done) jump))).heap[w.heap.size]?=some (.loop (rec (if jump.isNone then .ready else .done) jump)):=fun jump W3 h3=>by
   have hl4:=(h3.2 _ (by omega) (.inl El)).trans hl3
   have:=run_endRound (P:=P) jump hl4;rw [hrec] at this ⊢;exact ⟨this,World.putObj_heap_same (Array.getElem?_eq_some_iff.1 hl4).1⟩
  rintro e a3 W3 hp;cases e with
  | normal =>
   obtain ⟨h3,hi3⟩:=hp;obtain ⟨hr,hl4⟩:=fin none W3 h3
   exact ⟨_,_,hr,.inl ⟨rfl,⟨hI _ _ _ hi3 (Agr.putObj _ _ _ El),hl4⟩,Nat.le_trans hsb.1 (Nat.le_trans h3.1 (Agr.putObj (E:=E) W3 _ _ El).size),fun k hk hB =>
    (World.putObj_heap_other (by have:=nek k hB;omega)).trans ((h3.2 k (Nat.lt_of_lt_of_le hk hsb.1) (up k hB)).trans (hsb.2 k hk hB))⟩⟩
  | ret =>
   obtain ⟨h3,hi3⟩:=hp;obtain ⟨hr,hl4⟩:=fin (some .ret) W3 h3;exact ⟨_,_,hr,.inr ⟨rfl,.ret,hIx _ _ _ _ hi3 (Agr.putObj _ _ _ El),hl4⟩⟩
  | exit id =>
   obtain ⟨h3,hi3⟩:=hp;obtain ⟨hr,hl4⟩:=fin (some (.exit id)) W3 h3;exact ⟨_,_,hr,.inr ⟨rfl,.exit id,hIx _ _ _ _ hi3 (Agr.putObj _ _ _ El),hl4⟩⟩
  | goto t =>
   obtain ⟨h3,hi3⟩:=hp;obtain ⟨hr,hl4⟩:=fin (some (.goto t)) W3 h3;exact ⟨_,_,hr,.inr ⟨rfl,.goto t,hIx _ _ _ _ hi3 (Agr.putObj _ _ _ El),hl4⟩⟩
  | panic ch=>exact hp.elim
  | outgrown=>exact hp.elim
 .-- behind the iterator
  rintro e W2 ⟨⟨v,rfl⟩,(⟨hi,hl⟩ | ⟨pre,hSp,c,hi,hl⟩)⟩
  .exact ⟨none,_,by have:=run_endLoop (P:=P) hl (by rw [hrec];simp);rw [hrec] at this;exact this,hdone _ (hI _ _ _ hi (Agr.putObj _ _ _ El))⟩
  .exact ⟨some c,_,by have:=run_endLoop (P:=P) hl (by rw [hrec];simp);rw [hrec] at this;exact this,hstop c pre _ hSp (hIx _ _ _ _ hi (Agr.putObj _ _ _ El))⟩
theorem aGu (x y a b:Nat) (ha:a<2) (hb:b<2):(2*x+a)&&&(2*y+b)=2*(x&&&y)+a*b:=by
 have hab:a*b<2:=by
  have h1:a=0∨a=1:=by omega
  rcases h1 with rfl | rfl <;> omega
 refine Nat.eq_of_testBit_eq fun i=>?_
 rw [Nat.testBit_and];cases i with
 | zero =>
  have h1:a=0∨a=1:=by omega
  have h2:b=0∨b=1:=by omega
  rcases h1 with rfl | rfl <;> rcases h2 with rfl | rfl <;> simp [Nat.testBit_zero] <;> omega
 | succ i =>
  rw [Nat.testBit_succ,Nat.testBit_succ,Nat.testBit_succ,show (2*x+a) / 2=x by omega,show (2*y+b) / 2=y by omega,show (2*(x&&&y)+a*b) / 2=x&&&y by omega,Nat.testBit_and]
def aGj (w S s:Nat):Nat:=(s+(2 ^ w-S)) % 2 ^ w&&&S
theorem aRz (n:Nat):∃ x a,a<2/\n=2*x+a:=⟨n / 2,n % 2,Nat.mod_lt _ (by decide),by omega⟩
theorem aVg {x y a b:Nat} (ha:a<2) (hb:b<2) (h:(2*x+a)&&&(2*y+b)=2*x+a):x&&&y=x/\a<=b:=by
 rw [aGu x y a b ha hb] at h;have h1:a=0∨a=1:=by omega
 have h2:b=0∨b=1:=by omega
 rcases h1 with rfl | rfl <;> rcases h2 with rfl | rfl <;> omega
theorem bEb (w:Nat):∀ S s,S<2 ^ w->s&&&S=s->(s+(2 ^ w-1-S))&&&S=s:=by
 induction w with
 | zero => intro S s h hs; have : S = 0 := by simpa using h
           subst this;simpa using hs
 | succ w ih =>
  intro S s h hs
  obtain ⟨y,b,hb,rfl⟩:=aRz S;obtain ⟨x,a,ha,rfl⟩:=aRz s;obtain ⟨hxy,hab⟩:=aVg ha hb hs;have hp:2 ^ (w+1)=2*2 ^ w:=by rw [Nat.pow_succ];omega
  have hy:y<2 ^ w:=by omega
  have e:2*x+a+(2 ^ (w+1)-1-(2*y+b))=2*(x+(2 ^ w-1-y))+(a+1-b):=by omega
  rw [e,aGu _ _ _ _ (by omega) hb,ih y x hy hxy]
  have h1:a=0∨a=1:=by omega
  have h2:b=0∨b=1:=by omega
  rcases h1 with rfl | rfl <;> rcases h2 with rfl | rfl <;> omega
theorem aCo {s S:Nat} (h:s&&&S=s):s<=S:=by rw [<- h];exact Nat.and_le_right
theorem aGr (w S:Nat) (h:S<2 ^ w):aGj w S S=0:=by
 unfold aGj;rw [show S+(2 ^ w-S)=2 ^ w by omega,Nat.mod_self,Nat.zero_and]
theorem aGs (w:Nat):∀ S s,S<2 ^ w->s&&&S=s->s≠S ->
  s<aGj w S s/\aGj w S s&&&S=aGj w S s/\∀ t,t&&&S=t->s<t->aGj w S s<=t:=by
 induction w with
 | zero =>
  intro S s h hs hne
  have:S=0:=by simpa using h
  have:=aCo hs;omega
 | succ w ih =>
  intro S s h hs hne
  obtain ⟨y,b,hb,rfl⟩:=aRz S;obtain ⟨x,a,ha,rfl⟩:=aRz s;obtain ⟨hxy,hab⟩:=aVg ha hb hs;have hp:2 ^ (w+1)=2*2 ^ w:=by rw [Nat.pow_succ];omega
  have hy:y<2 ^ w:=by omega
  have hle:=aCo hxy
  by_cases hc:a=0/\b=1
  .obtain ⟨rfl,rfl⟩:=hc
   have e:aGj (w+1) (2*y+1) (2*x+0)=2*x+1:=by
    unfold aGj;rw [Nat.mod_eq_of_lt (by omega),show 2*x+0+(2 ^ (w+1)-(2*y+1))=2*(x+(2 ^ w-1-y))+1 by omega,aGu _ _ _ _ (by omega) (by omega),bEb w y x hy hxy]
   rw [e];exact ⟨by omega,by rw [aGu _ _ _ _ (by omega) (by omega),hxy],fun t _ ht=>by omega⟩
  .have hab':a=b:=by omega
   subst hab';have hne':x≠y:=fun e=>hne (by rw [e])
   have e:aGj (w+1) (2*y+a) (2*x+a)=2*aGj w y x:=by
    unfold aGj
    rw [show 2*x+a+(2 ^ (w+1)-(2*y+a))=2*(x+(2 ^ w-y)) by omega,hp,Nat.mul_mod_mul_left,
     show 2*((x+(2 ^ w-y)) % 2 ^ w)=2*((x+(2 ^ w-y)) % 2 ^ w)+0 by omega,aGu _ _ _ _ (by omega) ha]
    omega
   obtain ⟨h1,h2,h3⟩:=ih y x hy hxy hne';rw [e];refine ⟨by omega,?_,fun t ht hlt=>?_⟩
   .rw [show 2*aGj w y x=2*aGj w y x+0 by omega,aGu _ _ _ _ (by omega) ha,h2];omega
   .obtain ⟨u,c,hcc,rfl⟩:=aRz t
    obtain ⟨hu,hca⟩:=aVg hcc ha ht;have:=h3 u hu (by omega)
    omega
def aK0 (S:Nat):Nat->Nat->List Nat
 | 0,_=>[]
 | f+1,s=>if s=0 then [] else s :: aK0 S f (aGj 32 S s)
theorem bBb {S:Nat} (hS:S<2 ^ 32):∀ f g s,s&&&S=s->S<f+s->S<g+s->aK0 S f s=aK0 S g s:=by
 intro f
 induction f with
 | zero=>intro g s hs hf _;have:=aCo hs;omega
 | succ f ih =>
  intro g s hs hf hg
  cases g with
  | zero=>have:=aCo hs;omega
  | succ g =>
   unfold aK0
   by_cases h0:s=0
   .rw [if_pos h0,if_pos h0]
   .rw [if_neg h0,if_neg h0]
    by_cases hl:s=S
    .subst hl
     rw [aGr 32 s hS];cases f <;> cases g <;> simp [aK0]
    .obtain ⟨h1,h2,_⟩:=aGs 32 S s hS hs hl
     rw [ih g _ h2 (by omega) (by omega)]
theorem bBc (S f s:Nat):aK0 S (f+1) s=if s=0 then [] else s :: aK0 S f (aGj 32 S s):=rfl
def aBd (S s:Nat):List Nat:=aK0 S (S+1) s
theorem aDq (S:Nat):aBd S 0=[]:=by unfold aBd aK0;rw [if_pos rfl]
theorem aFu {S s:Nat} (hS:S<2 ^ 32) (hs:s&&&S=s) (h0:s≠0):aBd S s=s :: aBd S (aGj 32 S s):=by
 have e:aBd S s=s :: aK0 S S (aGj 32 S s):=by unfold aBd;rw [bBc,if_neg h0]
 rw [e]
 by_cases hl:s=S
 .subst hl
  rw [aGr 32 s hS,aDq];cases s <;> simp [aK0]
 .obtain ⟨h1,h2,_⟩:=aGs 32 S s hS hs hl
  unfold aBd;rw [bBb hS S (S+1) _ h2 (by omega) (by omega)]
theorem aIr {S:Nat} (hS:S<2 ^ 32):∀ n s,S-s<n->s&&&S=s->s≠0->∀ t,t∈aBd S s↔s<=t/\t&&&S=t:=by
 intro n
 induction n with
 | zero=>intro s h;omega
 | succ n ih =>
  intro s hn hs h0 t
  rw [aFu hS hs h0,List.mem_cons]
  by_cases hl:s=S
  .subst hl
   rw [aGr 32 s hS,aDq];constructor
   .rintro (rfl | h)
    .exact ⟨Nat.le_refl _,hs⟩
    .cases h
   .rintro ⟨h1,h2⟩
    exact .inl (Nat.le_antisymm (aCo h2) h1)
  .obtain ⟨h1,h2,h3⟩:=aGs 32 S s hS hs hl
   have hle:=aCo h2;rw [ih _ (by omega) h2 (by omega) t]
   constructor
   .rintro (rfl | ⟨ha,hb⟩)
    .exact ⟨Nat.le_refl _,hs⟩
    .exact ⟨by omega,hb⟩
   .rintro ⟨ha,hb⟩
    rcases Nat.eq_or_lt_of_le ha with rfl | hlt
    .exact .inl rfl
    .exact .inr ⟨h3 t hb hlt,hb⟩
theorem aPk {S:Nat} (hS:S<2 ^ 32):∀ n s,S-s<n->s&&&S=s->(aBd S s).Pairwise (· < ·):=by
 intro n
 induction n with
 | zero=>intro s h;omega
 | succ n ih =>
  intro s hn hs
  by_cases h0:s=0
  .subst h0;rw [aDq];exact .nil
  .rw [aFu hS hs h0]
   by_cases hl:s=S
   .subst hl;rw [aGr 32 s hS,aDq];exact .cons (fun _ h=>by cases h) .nil
   .obtain ⟨h1,h2,_⟩:=aGs 32 S s hS hs hl
    have hle:=aCo h2;refine .cons (fun t ht=>?_) (ih _ (by omega) h2)
    have:=((aIr hS n _ (by omega) h2 (by omega) t).1 ht).1
    omega
theorem bIr:∀ n S:Nat,S<n->S≠0->∃ k m,S=2 ^ k*(2*m+1):=by
 intro n
 induction n with
 | zero=>intro S h;omega
 | succ n ih =>
  intro S h h0
  obtain ⟨x,a,ha,rfl⟩:=aRz S
  by_cases h1:a=1
  .subst h1;exact ⟨0,x,by omega⟩
  .obtain rfl:a=0:=by omega
   obtain ⟨k,m,e⟩:=ih x (by omega) (by omega)
   exact ⟨k+1,m,by rw [Nat.pow_succ,e];rw [Nat.mul_right_comm,Nat.mul_comm];omega⟩
theorem bH6 (w:Nat):∀ S,S<2 ^ w->S&&&(2 ^ w-1-S)=0:=by
 induction w with
 | zero => intro S h; have : S = 0 := by simpa using h
           subst this;rfl
 | succ w ih =>
  intro S h
  obtain ⟨x,a,ha,rfl⟩:=aRz S;have hp:2 ^ (w+1)=2*2 ^ w:=by rw [Nat.pow_succ];omega
  rw [show 2 ^ (w+1)-1-(2*x+a)=2*(2 ^ w-1-x)+(1-a) by omega,aGu _ _ _ _ ha (by omega),ih x (by omega)]
  have h1:a=0∨a=1:=by omega
  rcases h1 with rfl | rfl <;> rfl
theorem bKw (x y:Nat):(2*x)&&&(2*y)=2*(x&&&y):=by
 have:=aGu x y 0 0 (by decide) (by decide)
 simpa using this
theorem bEf (k m:Nat):2 ^ k*(2*m+1)&&&(2 ^ k*(2*m+1)-1)=2 ^ k*(2*m):=by
 induction k with
 | zero =>
  have:=aGu m m 1 0 (by decide) (by decide)
  simpa using this
 | succ k ih =>
  have hpos:0<2 ^ k*(2*m+1):=Nat.mul_pos (Nat.two_pow_pos k) (by omega)
  rw [show 2 ^ (k+1)*(2*m+1)=2*(2 ^ k*(2*m+1)) by rw [Nat.pow_succ,Nat.mul_comm (2 ^ k) 2,Nat.mul_assoc],
   show 2 ^ (k+1)*(2*m)=2*(2 ^ k*(2*m)) by rw [Nat.pow_succ,Nat.mul_comm (2 ^ k) 2,Nat.mul_assoc]]
  generalize 2 ^ k*(2*m+1)=S at *;have h:=aGu S (S-1) 0 1 (by decide) (by decide)
  rw [show 2*(S-1)+1=2*S-1 by omega] at h
  rw [<- ih];simpa using h
theorem bO8 (k:Nat):∀ w m,2 ^ k*(2*m+1)<2 ^ w->2 ^ k*(2*m+1)&&&(2 ^ w-2 ^ k*(2*m+1))=2 ^ k:=by
 induction k with
 | zero =>
  intro w m h
  cases w with
  | zero=>simp at h
  | succ w =>
   have hp:2 ^ (w+1)=2*2 ^ w:=by rw [Nat.pow_succ];omega
   simp only [Nat.pow_zero,Nat.one_mul] at h ⊢
   rw [show 2 ^ (w+1)-(2*m+1)=2*(2 ^ w-1-m)+1 by omega,aGu _ _ _ _ (by decide) (by decide),bH6 w m (by omega)]
 | succ k ih =>
  intro w m h
  have e:2 ^ (k+1)*(2*m+1)=2*(2 ^ k*(2*m+1)):=by rw [Nat.pow_succ,Nat.mul_comm (2 ^ k) 2,Nat.mul_assoc]
  rw [e] at h ⊢;cases w with
  | zero =>
   have hpos:0<2 ^ k*(2*m+1):=Nat.mul_pos (Nat.two_pow_pos k) (by omega)
   omega
  | succ w =>
   have hp:2 ^ (w+1)=2*2 ^ w:=by rw [Nat.pow_succ];omega
   have h2:=ih w m (by omega)
   rw [show 2 ^ (w+1)-2*(2 ^ k*(2*m+1))=2*(2 ^ w-2 ^ k*(2*m+1)) by omega,bKw,h2,Nat.pow_succ]
   omega
def aAg (S:Nat):List Nat:=(List.range 32).filter (S.testBit ·)
theorem aLk:aAg 0=[]:=by unfold aAg;simp
theorem aCb {S v:Nat}:v∈aAg S↔v<32/\S.testBit v=true:=by unfold aAg;simp [List.mem_filter]
theorem bN8 {k m w:Nat} (h:2 ^ k*(2*m+1)<2 ^ w):k<w:=by
 rcases Nat.lt_or_ge k w with hk | hk
 .exact hk
 .have h1:2 ^ w<=2 ^ k:=Nat.pow_le_pow_right (by decide) hk
  have h2:2 ^ k*1<=2 ^ k*(2*m+1):=Nat.mul_le_mul_left _ (by omega)
  omega
theorem aQi (k m i:Nat):(2 ^ k*(2*m+1)).testBit i=(decide (i=k)||(2 ^ k*(2*m)).testBit i):=by
 rw [Nat.testBit_two_pow_mul,Nat.testBit_two_pow_mul]
 by_cases h:i=k
 .subst h;simp [Nat.testBit_zero]
 .by_cases hk:k<=i
  .obtain ⟨j,rfl⟩:∃ j,i=k+(j+1):=⟨i-k-1,by omega⟩
   rw [show k+(j+1)-k=j+1 by omega,Nat.testBit_succ,Nat.testBit_succ,show (2*m+1) / 2=2*m / 2 by omega]
   simp
  .simp [h,hk]
theorem aM7 (k m i:Nat) (h:i<=k):(2 ^ k*(2*m)).testBit i=false:=by
 rw [Nat.testBit_two_pow_mul]
 by_cases hk:i=k
 .subst hk;simp [Nat.testBit_zero]
 .have:¬ i ≥ k:=by omega
  simp [this]
theorem aIl {k m:Nat} (h:2 ^ k*(2*m+1)<2 ^ 32):aAg (2 ^ k*(2*m+1))=k :: aAg (2 ^ k*(2*m)):=by
 have hk:k<32:=bN8 h;unfold aAg;obtain ⟨d,hd⟩:∃ d,32=k+(1+d):=⟨31-k,by omega⟩
 rw [hd,List.range_add,List.filter_append,List.filter_append,List.range_add,List.map_append,List.filter_append,List.filter_append]
 have h1:∀ S:Nat,(∀ i,i<k->S.testBit i=false)->(List.range k).filter (S.testBit ·)=[]:=by
  intro S hS;rw [List.filter_eq_nil_iff];intro a ha;rw [hS a (List.mem_range.1 ha)];decide
 rw [h1 _ (fun i hi=>by rw [aQi,aM7 k m i (by omega)];simp;omega),h1 _ (fun i hi=>aM7 k m i (by omega))]
 have h2:(List.map (k+·) (List.range 1))=[k]:=rfl;rw [h2,List.nil_append,List.nil_append];have e1:List.filter (fun x=>(2 ^ k*(2*m+1)).testBit x) [k]=[k]:=by simp [aQi]
 have e2:List.filter (fun x=>(2 ^ k*(2*m)).testBit x) [k]=[]:=by simp [aM7 k m k (Nat.le_refl _)]
 rw [e1,e2,List.nil_append,List.singleton_append]
 congr 1
 refine List.filter_congr fun i hi=>?_
 simp only [List.mem_map,List.mem_range] at hi
 obtain ⟨a,⟨b,_,rfl⟩,rfl⟩:=hi;rw [aQi];have:¬ k+(1+b)=k:=by omega
 simp [this]
section
variable {P:Program} {ops:Array Oper} {Q:Exit->Act->World->Prop} {md:Region.Mode} {S:World->Prop} {L:Nat}
theorem aA6.two {i j:Nat} {o o2:Oper} {fuel:Nat} {listed:Array Bool} {a:Act} {w:World} (hr:Region.ready md ops listed=[i,j]) (ho:ops[i]?=some o) (ho2:ops[j]?=some o2)
  (h:∀ K':Act->World->Prop,Shut (∀ a w,(i≠L->S w)->aA6 P md ops Q S L fuel (listed.setIfInBounds i true) a w->K' a w)->if Region.wanted o (yielded ops a.tmps)=true then Oper.wp P o a w K' Q else K' (a.put o.dst undef) w)
  (h2:∀ K':Act->World->Prop,Shut (∀ a w,(j≠L->S w)->aA6 P md ops Q S L fuel (listed.setIfInBounds j true) a w->K' a w)->if Region.wanted o2 (yielded ops a.tmps)=true then Oper.wp P o2 a w K' Q else K' (a.put o2.dst undef) w) :
  aA6 P md ops Q S L (fuel+1) listed a w:=by
 refine And.intro (fun h=>by rw [h] at hr;exact absurd hr (by simp)) (fun k hk=>?_)
 rw [hr] at hk;have hk':k=i∨k=j:=by simpa using hk
 rcases hk' with rfl | rfl
 .exact wpOp_step ho (fun K' hK=>h K' (fun a w hS hW=>hK a w ⟨hS,hW⟩))
 .exact wpOp_step ho2 (fun K' hK=>h2 K' (fun a w hS hW=>hK a w ⟨hS,hW⟩))
theorem aA6.three {i j k:Nat} {o o2 o3:Oper} {fuel:Nat} {listed:Array Bool} {a:Act} {w:World} (hr:Region.ready md ops listed=[i,j,k]) (ho:ops[i]?=some o) (ho2:ops[j]?=some o2) (ho3:ops[k]?=some o3)
  (h:∀ K':Act->World->Prop,Shut (∀ a w,(i≠L->S w)->aA6 P md ops Q S L fuel (listed.setIfInBounds i true) a w->K' a w)->if Region.wanted o (yielded ops a.tmps)=true then Oper.wp P o a w K' Q else K' (a.put o.dst undef) w)
  (h2:∀ K':Act->World->Prop,Shut (∀ a w,(j≠L->S w)->aA6 P md ops Q S L fuel (listed.setIfInBounds j true) a w->K' a w)->if Region.wanted o2 (yielded ops a.tmps)=true then Oper.wp P o2 a w K' Q else K' (a.put o2.dst undef) w)
  (h3:∀ K':Act->World->Prop,Shut (∀ a w,(k≠L->S w)->aA6 P md ops Q S L fuel (listed.setIfInBounds k true) a w->K' a w)->if Region.wanted o3 (yielded ops a.tmps)=true then Oper.wp P o3 a w K' Q else K' (a.put o3.dst undef) w) :
  aA6 P md ops Q S L (fuel+1) listed a w:=by
 refine And.intro (fun h=>by rw [h] at hr;exact absurd hr (by simp)) (fun q hq=>?_)
 rw [hr] at hq;have hq':q=i∨q=j∨q=k:=by simpa using hq
 rcases hq' with rfl | rfl | rfl
 .exact wpOp_step ho (fun K' hK=>h K' (fun a w hS hW=>hK a w ⟨hS,hW⟩))
 .exact wpOp_step ho2 (fun K' hK=>h2 K' (fun a w hS hW=>hK a w ⟨hS,hW⟩))
 .exact wpOp_step ho3 (fun K' hK=>h3 K' (fun a w hS hW=>hK a w ⟨hS,hW⟩))
end
end Go.Proofs.YtmoebklkkjbigaaGreatDoor

