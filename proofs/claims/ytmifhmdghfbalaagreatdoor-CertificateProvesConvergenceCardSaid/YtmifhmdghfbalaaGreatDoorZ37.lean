/- Merged. -/
import Derived.Test.YtmifhmdghfbalaaGreatDoorZ36
import Derived.Test.YtmifhmdghfbalaaGreatDoorZ33
import Derived.BigQuiet
set_option linter.unusedSimpArgs false
set_option linter.unnecessarySimpa false
set_option linter.unusedVariables false
set_option maxRecDepth 100000
set_option maxHeartbeats 8000000
open Go.Proofs.Tryz

namespace Go.Proofs.YtmifhmdghfbalaaGreatDoor
def aFy (legit:List Bool) (ls:List (List (Nat × Int))) (V:Nat->List Int) (k:Nat):Bool :=
 decide (0<(ls.getD k []).length)&&(ls.getD k []).all fun x=>legit.getD x.2.toNat false||aBx (V x.2.toNat) (V k)
def aZa (legit:List Bool) (ls:List (List (Nat × Int))) (V:Nat->List Int) (k:Nat):Bool := !legit.getD k false && !aFy legit ls V k
def aLz (legit:List Bool) (ls:List (List (Nat × Int))) (V:Nat->List Int):Int × Int :=
 match (List.range legit.length).find? (aZa legit ls V) with
 | some k=>((k:Int),15)
 | none=>(-1,0)
theorem aLy {f:Nat->Bool} {n:Nat} (h:∀ k,k<n->f k=false):(List.range n).find? f=none:=by
 rw [List.find?_eq_none];intro k hk
 rw [h k (List.mem_range.1 hk)];simp
theorem bKq {f:Nat->Bool}:∀ {n k:Nat},k<n->(∀ j,j<k->f j=false)->f k=true->(List.range n).find? f=some k:=by
 intro n k hk h1 h2
 obtain ⟨m,rfl⟩:∃ m,n=k+1+m:=⟨n-(k+1),by omega⟩
 rw [List.range_add,List.find?_append,List.range_succ,List.find?_append,aLy h1];simp [h2]
theorem aMf {legit:List Bool} {ls:List (List (Nat × Int))} {V:Nat->List Int} (h:∀ k,k<legit.length->aZa legit ls V k=false):aLz legit ls V=(-1,0):=by
 unfold aLz;rw [aLy h]
theorem aXa {legit:List Bool} {ls:List (List (Nat × Int))} {V:Nat->List Int} {k:Nat} (hk:k<legit.length) (h1:∀ j,j<k->aZa legit ls V j=false) (h2:aZa legit ls V k=true):aLz legit ls V=((k:Int),15):=by
 unfold aLz;rw [bKq hk h1 h2]
theorem bFq {legit:List Bool} {ls:List (List (Nat × Int))} {V:Nat->List Int} (h:(aLz legit ls V).2=0):∀ k,k<legit.length->aZa legit ls V k=false:=by
 unfold aLz at h;split at h
 .simp at h
 .rename_i hn
  rw [List.find?_eq_none] at hn;intro k hk
  have:=hn k (List.mem_range.2 hk);simpa using this
def aDz (p:Prg) (g:Graph) (l:List (List Term)) (k:Nat):List Int:=aPj g (aBp p g k) l
def aC9 (p:Prg) (g:Graph) (kind:Int) (legit:List Bool) (l:List (List Term)):Int × Int :=
 if (aBj p g kind).2≠0 then (0,(aBj p g kind).2)
 else if (aD6 p l&&decide (legit.length=(aBj p g kind).1.enabled.length))=false then (0,7)
 else aLz legit (aBj p g kind).1.arcs (aDz p g l)
def aSe:List Int->Int
 | []=>0
 | x :: xs=>xs.foldl max x-xs.foldl min x+1
def aF0 (p:Prg) (g:Graph) (legit:List Bool) (e:List Term) (n:Nat):List Int:=((List.range n).filter fun k => !legit.getD k false).map fun k=>(aDz p g [e] k).headD 0
def aP1 (p:Prg) (g:Graph) (kind:Int) (legit:List Bool) (e:List Term):Int × Int :=
 if (aC9 p g kind legit [e]).2≠0 then (0,(aC9 p g kind legit [e]).2) else (aSe (aF0 p g legit e legit.length),0)
open Go.RowKit
def bHx (w:World) (A:Option Addr) (legit:List Bool) (V:Nat->List Int):Prop :=
 ∀ k,k<legit.length->legit.getD k false=false->∃ b o X c,A=some ⟨b,o,none⟩/\b<w.heap.size/\w.cell? ⟨b,o+k,none⟩=some (.slice X (V k).length c)/\aB7 w X (V k).length (V k)
theorem bHx.keep {w w':World} {A:Option Addr} {legit:List Bool} {V:Nat->List Int} (h:bHx w A legit V) (k:Bel w w'):bHx w' A legit V:=fun u hu hl=>by
 obtain ⟨b,o,X,c,e,hb,h1,h2⟩:=h u hu hl;exact ⟨b,o,X,c,e,Nat.lt_of_lt_of_le hb k.size,(k.cell hb).trans h1,h2.keep k⟩
def bLf (N:Nat) (w:World) (A:Option Addr) (legit:List Bool) (V:Nat->List Int):Prop:=∀ w',Agr (fun k=>k<N) w w'->bHx w' A legit V
theorem bLf.now {N:Nat} {w:World} {A:Option Addr} {legit:List Bool} {V:Nat->List Int} (h:bLf N w A legit V):bHx w A legit V:=h w (Agr.refl _ _)
theorem bLf.agr {N:Nat} {w w':World} {A:Option Addr} {legit:List Bool} {V:Nat->List Int} (h:bLf N w A legit V) (hA:Agr (fun k=>k<N) w w'):bLf N w' A legit V:=fun w2 h2=>h w2 (hA.trans h2)
theorem aB7.agr {E:Nat->Prop} {w w':World} {A:Option Addr} {n N:Nat} {xs:List Int} (h:aB7 w A n xs) (hA:Agr E w w') (hE:∀ q,E q->q<N) (hN:∀ b o,A=some ⟨b,o,none⟩->N<=b):aB7 w' A n xs :=
 ⟨h.1,fun i x hx=>by
  obtain ⟨b,o,e,hb,h1⟩:=h.2 i x hx;have hne:¬ E b:=fun he=>by have:=hE b he;have:=hN b o e;omega
  exact ⟨b,o,e,Nat.lt_of_lt_of_le hb hA.size,(hA.cell hb hne).trans h1⟩⟩
def aEe (w:World) (N:Nat) (S:List Nat) (hs:List Value) (V:Nat->List Int):Prop :=
 ∀ u∈S,∃ X c,hs[u]?=some (.slice X (V u).length c)/\aB7 w X (V u).length (V u)/\∀ b o,X=some ⟨b,o,none⟩->N<=b
theorem aEe.agr {E:Nat->Prop} {w w':World} {N:Nat} {S:List Nat} {hs:List Value} {V:Nat->List Int} (h:aEe w N S hs V) (hA:Agr E w w') (hE:∀ q,E q->q<N):aEe w' N S hs V:=fun u hu=>by
 obtain ⟨X,c,h1,h2,h3⟩:=h u hu;exact ⟨X,c,h1,h2.agr hA hE h3,h3⟩
theorem aEe.set {w:World} {N:Nat} {S:List Nat} {hs:List Value} {V:Nat->List Int} (h:aEe w N S hs V) {k:Nat} (hk:k<hs.length) {X:Option Addr} {c:Nat} (hX:aB7 w X (V k).length (V k)) (hN:∀ b o,X=some ⟨b,o,none⟩->N<=b) :
  aEe w N (S++[k]) (hs.set k (.slice X (V k).length c)) V:=fun u hu=>by
 by_cases e:u=k
 .subst e
  exact ⟨X,c,List.getElem?_set_self hk,hX,hN⟩
 .obtain ⟨Y,d,h1,h2,h3⟩:=h u (by rcases List.mem_append.1 hu with h | h;exact h;exact absurd (by simpa using h) e)
  exact ⟨Y,d,by rw [List.getElem?_set_ne (fun x=>e x.symm)];exact h1,h2,h3⟩
theorem aEe.read {w:World} {base N:Nat} {legit:List Bool} {S:List Nat} {hs:List Value} {V:Nat->List Int} {H:Option Addr} {n c:Nat} (h:aEe w N S hs V) (hH:w.ownsRow base 26 1 (.slice H n c) n hs) (hS:∀ k,k<legit.length->legit.getD k false=false->k∈S) :
  bHx w H legit V:=fun k hk hl=>by
 obtain ⟨X,d,h1,h2,_⟩:=h k (hS k hk hl);obtain ⟨q,e1,_,q3,q4,_⟩:=aBv hH h1;exact ⟨q,0,X,d,e1,q3,by simpa using q4,h2⟩
theorem bJj {w:World} {base:Nat} {e:TypeId} {A:Option Addr} {n c:Nat} {xs:List Value} (h:w.ownsRow base e 1 (.slice A n c) n xs):∀ b o,A=some ⟨b,o,none⟩->base<=b:=by
 rintro b o rfl
 rcases h.2 with ⟨hv,_⟩ | ⟨g,cap,cur,hv,hg,_⟩
 .cases hv
 .injection hv with hv
  injection hv with hv
  injection hv with hv
  omega
theorem bKl {p:Prg} {g:Graph} {kind:Int} {c:aA8} (hm:aCp p g c=0) (hk:aGw kind=true) (h5:g.ports.length<=5):∀ x∈aEq p g kind c,0<=x.2/\x.2<aC7 p g:=by
 intro x hx
 unfold aEq at hx;obtain ⟨T,hT,rfl⟩:=List.mem_map.1 hx;obtain ⟨_,_,h3⟩:=aJc hm hk h5 hT;exact aLl h3
theorem aUt {p:Prg} {g:Graph} {kind:Int} (h:(aBj p g kind).2=0) (hfew:(aAs p g).2=0->aC7 p g<=200/\g.ports.length<=5) :
  ∃ n:Nat,(aBj p g kind).1=⟨esF p g n,lsF p g kind n⟩/\aC7 p g=(n:Int)/\aCf p g=0/\aGw kind=true/\1<=n/\n<=200/\g.ports.length<=5:=by
 have hE:aBj p g kind=if (aAs p g).2≠0/\(aAs p g).2≠3 then (⟨[],[]⟩,(aAs p g).2) else if aGw kind=false then (⟨[],[]⟩,12) else if (aAs p g).2≠0 then (⟨[],[]⟩,(aAs p g).2) else (aNy p g kind,0):=rfl
 by_cases h1:(aAs p g).2≠0/\(aAs p g).2≠3
 .rw [hE,if_pos h1] at h;exact absurd h h1.1
 rw [if_neg h1] at hE
 by_cases hk:aGw kind=false
 .rw [hE,if_pos hk] at h;cases h
 rw [if_neg hk] at hE
 by_cases h2:(aAs p g).2≠0
 .rw [hE,if_pos h2] at h;exact absurd h h2
 rw [if_neg h2] at hE;have h0:(aAs p g).2=0:=by simpa using h2
 obtain ⟨hs,h5⟩:=hfew h0;obtain ⟨hf,_⟩:=aQ5 (n:=(aAs p g).1) (show ((aAs p g).1,(0:Int))=aAs p g by rw [<- h0])
 have hp:=aNx hf;obtain ⟨n,hn⟩:=Int.eq_ofNat_of_zero_le (show 0<=aC7 p g by omega)
 exact ⟨n,by rw [hE];exact bJq p g kind hn,hn,hf,by simpa using hk,by omega,by omega,h5⟩
theorem bBi {p:Prg} {g:Graph} {kind:Int} {n:Nat} (hn:aC7 p g=(n:Int)) (hf:aCf p g=0) (hk:aGw kind=true) (h5:g.ports.length<=5):∀ l∈lsF p g kind n,l.length<=31/\∀ x∈l,0<=x.2/\x.2<(n:Int):=by
 intro l hl
 unfold lsF at hl;obtain ⟨k,hk2,rfl⟩:=List.mem_map.1 hl;have hm:aCp p g (aBp p g k)=0:=aEr hf (by have:=List.mem_range.1 hk2;omega)
 exact ⟨bF4 hm h5,fun x hx=>by have:=bKl hm hk h5 x hx;omega⟩
attribute [local go_sem] Oper.semAt_some
theorem bFj (W:World) (n:Nat) (h:n<=W.heap.size):∃ w0:World,Bel w0 W/\w0.heap.size=n/\∀ k,k<n->w0.heap[k]?=W.heap[k]?:=by
 refine ⟨{ W with heap:=W.heap.extract 0 n },⟨rfl,rfl,rfl,?_,fun k hk=>?_⟩,?_,fun k hk=>?_⟩
 .simp;omega
 .have:k<n:=by simp at hk;omega
  simp only [Array.getElem?_extract]
  rw [if_pos (by omega),Nat.zero_add]
 .simp;omega
 .simp only [Array.getElem?_extract]
  rw [if_pos (by omega),Nat.zero_add]
theorem aEn.off {w W:World} {A:Option Addr} {n gr:Nat} {T:List (List (Int × Int))} (h:aEn w A n T) (hT:∀ t∈T,1<=t.length) (hz:∀ o v,w.cell? ⟨gr,o,none⟩=some v->v = .slice none 0 0) (hs:w.heap.size<=W.heap.size) (hk:∀ k,k<w.heap.size->k≠gr->W.heap[k]?=w.heap[k]?):aEn W A n T:=by
 refine ⟨h.1,fun i x hx=>?_⟩
 obtain ⟨b,o,e,hb,R,c,h1,h2,h3,h4⟩:=h.2 i x hx;have hl:=hT x (List.mem_of_getElem? hx)
 have hbg:b≠gr:=by
  rintro rfl;have:=hz _ _ h1;injection this with _ h5 _
  omega
 refine ⟨b,o,e,Nat.lt_of_lt_of_le hb hs,R,c,(World.cell?_of_block (hk b hb hbg)).trans h1,⟨h2.1,fun j y hy=>?_⟩,h3,h4⟩
 obtain ⟨b2,o2,e2,hb2,q1,q2⟩:=h2.2 j y hy
 have hbg2:b2≠gr:=by
  rintro rfl;have:=hz _ _ q1;cases this
 exact ⟨b2,o2,e2,Nat.lt_of_lt_of_le hb2 hs,(World.cell?_of_block (hk b2 hb2 hbg2)).trans q1,(World.cell?_of_block (hk b2 hb2 hbg2)).trans q2⟩
theorem aUl {w:World} {base gr n c:Nat} (h:w.ownsRow base 26 1 (.slice (some ⟨gr,0,none⟩) n c) n (List.replicate n (.slice none 0 0))) (hc:c=n):∀ o v,w.cell? ⟨gr,o,none⟩=some v->v = .slice none 0 0:=by
 subst hc;intro o v hv
 rcases h.2 with ⟨hv',_⟩ | ⟨g',cap,cur,hv',hb,hg,h5,h6,h7,h8⟩
 .cases hv'
 .injection hv' with hA hn hc
  injection hA with hA
  injection hA with hA
  subst hA;have hv2:cur[o]?=some v:=by simpa [World.cell?,hg] using hv
  have hl:cur.toList=List.replicate c (.slice none 0 0):=by rw [<- h8,List.take_of_length_le (by rw [Array.length_toList,h7,hc];omega)]
  have h3:cur.toList[o]?=some v:=by simpa using hv2
  rw [hl,List.getElem?_replicate] at h3;split at h3
  .exact (Option.some.inj h3).symm
  .cases h3
theorem aB7.def {B0:Nat} {w w':World} {A:Option Addr} {n:Nat} {xs:List Int} (h:aB7 w A n xs) (hA:Agr (bHw B0 w) w w'):aB7 w' A n xs :=
 ⟨h.1,fun i x hx=>by
  obtain ⟨b,o,e,hb,h1⟩:=h.2 i x hx;exact ⟨b,o,e,Nat.lt_of_lt_of_le hb hA.size,hA.cellD h1⟩⟩
theorem bHx.def {B0:Nat} {w w':World} {A:Option Addr} {legit:List Bool} {V:Nat->List Int} (h:bHx w A legit V) (hA:Agr (bHw B0 w) w w'):bHx w' A legit V:=fun u hu hl=>by
 obtain ⟨b,o,X,c,e,hb,h1,h2⟩:=h u hu hl;exact ⟨b,o,X,c,e,Nat.lt_of_lt_of_le hb hA.size,hA.cellD h1,h2.def hA⟩
theorem aEe.def {B0:Nat} {w w':World} {N:Nat} {S:List Nat} {hs:List Value} {V:Nat->List Int} (h:aEe w N S hs V) (hA:Agr (bHw B0 w) w w'):aEe w' N S hs V:=fun u hu=>by
 obtain ⟨X,c,h1,h2,h3⟩:=h u hu;exact ⟨X,c,h1,h2.def hA,h3⟩
theorem aJn {legit:List Bool} {n k:Nat}:k∈aPc legit n↔k<n/\legit.getD k false=false:=by
 unfold aPc;rw [List.mem_filter,List.mem_range];cases legit.getD k false <;> simp
def aSt (l:List Nat):Nat:=l.getLastD 0
theorem aTm (l:List Nat) (x:Nat):aSt (l++[x])=x:=by unfold aSt;simp
theorem aRp (legit:List Bool) (n:Nat):(aPc legit n).Pairwise (· < ·):=(List.pairwise_lt_range).filter _
theorem bGn {legit:List Bool} {n x:Nat} {pre:List Nat} (h:pre++[x] <+: aPc legit n):aSt pre<=x:=by
 obtain ⟨t,ht⟩:=h;have hs:=aRp legit n;rw [<- ht,List.append_assoc,List.pairwise_append] at hs;unfold aSt
 rcases List.eq_nil_or_concat pre with rfl | ⟨l,b,rfl⟩
 .simp
 .have:=hs.2.2 b (by simp) x (by simp)
  simp;omega
def bM9 (legit:List Bool) (V:Nat->List Int) (w:World) (e:Ending) (w':World):Prop:=∃ R c,e = .returned (.slice R legit.length c)/\bLf w.heap.size w' R legit V/\Bel w w'
def bMa (w:World) (B:Nat):Nat:=match w.cell? ⟨B,0,none⟩ with | some (.int _ x)=>x.toNat | _=>0
theorem bFa {w:World} {B:Nat} {t:TypeId} {n:Nat} (h:Boxed w B t (.int .i64 (n:Int))):bMa w B=n:=by unfold bMa;rw [h.cell];simp
theorem bHt:(prog.info? 26).map (fun i=>(i.zero,i.size,i.bytes))=some (some (.slice none 0 0),1,24):=by kernel_rfl
theorem aQm (v1:Value) (p:Prg) (v2:Value) (g:Graph) (AL:Option Addr) (cL:Nat) (legit:List Bool) (A:Option Addr) (ca:Nat) (l:List (List Term)) (w:World) (h:aE0 w v1 p) (h2:aAl w v2 g) (hB:aDa w AL legit.length legit) (hT:aAu w A l.length l)
  (hL:aAt p=true) (hG:aB3 g=true) (hf:aCf p g=0) (hn:aC7 p g=(legit.length:Int)) (hn2:legit.length<=200) (he:∀ e∈l,EOK p e) (hl:l.length<=10) :
  Calls prog 133 #[v1,v2,.slice AL legit.length cL,.slice A l.length ca] w (bM9 legit (aDz p g l) w):=by
 have HPV:=aA1 (fun w' (k:Bel w w')=>h.keep k);have HGV:=aA1 (fun w' (k:Bel w w')=>h2.keep k);have HBR:=aA1 (fun w' (k:Bel w w')=>hB.keep k);have HTR:=aA1 (fun w' (k:Bel w w')=>hT.keep k);obtain ⟨A1,k1,A2,k2,rfl,_,_,_,_,_,_⟩:=h;obtain ⟨A3,k3,A4,k4,rfl,_,_,_,_,_,_⟩:=h2;have HL:=aA1 hL;have HGL:=aA1 hG;have HFZ:=aA1 hf;have HN:=aA1 hn;have HEO:=aA1 he;obtain ⟨i0,hi0,hz0,hz1,hz2⟩:=info_parts bHt;have hv10:=(aAi hL).2.1;have hn1:1<=legit.length:=by have:=aNx hf;omega
 obtain ⟨bL,oL,rfl,hbL,_⟩:=hB.at_ 0 (by omega)
 have HBC:Hid (∀ v (h:v<legit.length),w.cell? ⟨bL,oL+v,none⟩=some (.bool legit[v])):=fun v hv=>by
  obtain ⟨b',o',e1,_,hc⟩:=hB.at_ v hv;obtain ⟨rfl,rfl⟩:bL=b'/\oL=o':=by simpa using e1
  exact hc
 obtain ⟨h1,h3,_⟩:=aAe hf;have H1:=aA1 h1;have H3:=aA1 h3;have hg24:g.ports.length<=24:=h3.le;have hg1:1<=g.ports.length:=h3.pos;have hv1:1<=p.vars.length:=aHl h1;have HTL:Hid ((aAa p g).length=g.ports.length):=by show _=_;rw [aAj,h3.ids]
 have HTM:Hid (∀ t∈aAa p g,t.length=p.vars.length):=by
  intro t ht
  unfold aAa at ht;obtain ⟨v,_,rfl⟩:=List.mem_map.1 ht;simp [aEp]
 have HTS:Hid (aK9 (aAa p g)):=aEd hf;have HOK:Hid (okN (aAa p g)):=HTS.out.ok;clear hT hL hG hf he hB h1 h3
 have HLB0:Hid (Boxed (((w.alloc (.cells #[.string p.name,.slice A1 p.vars.length k1,.slice A2 p.rules.length k2] 25)).alloc (.cells #[.slice A3 g.ids.length k3,.slice A4 g.ports.length k4] 29)).alloc (.cells #[.slice A l.length ca] 59)) (w.heap.size+1+1) 59 (.slice A l.length ca)):=by
  have:=Boxed.new ((w.alloc (.cells #[.string p.name,.slice A1 p.vars.length k1,.slice A2 p.rules.length k2] 25)).alloc (.cells #[.slice A3 g.ids.length k3,.slice A4 g.ports.length k4] 29)) 59 (.slice A l.length ca);rw [World.size_alloc,World.size_alloc] at this;exact this
 have HW:=(Bel.refl ((w.alloc (.cells #[.string p.name,.slice A1 p.vars.length k1,.slice A2 p.rules.length k2] 25)).alloc (.cells #[.slice A3 g.ids.length k3,.slice A4 g.ports.length k4] 29))).alloc (.cells #[.slice A l.length ca] 59);refine aF5 func133 rfl ?_
 simp only [ntmps133,List.size_toArray,List.length_cons,List.length_nil,Nat.reduceAdd,Nat.reduceSub,Array.replicate_succ,Array.replicate_zero,List.push_toArray,List.append_toArray,List.nil_append,List.cons_append]
 go_wp2_with (first
  | (at_make;refine aCu _ rfl 30 (.tmp 17) (.tmp 17) rfl (w.heap.size+1+1+1) 26 i0 (.slice none 0 0) 1 underlying30 hi0 hz0 hz1 .i64 .i64 legit.length rfl rfl (by rw [hz2];omega) (by unfold maxLen;omega) (by simp) ?_;intro gr w1 hown hb;rw [aEj _ rfl] at hown;have HO1:=aA1 hown;have HLB1:=aA1 (Blk.keep HLB0.out hb:Boxed w1 (w.heap.size+1+1) 59 (.slice A l.length ca));clear hown;replace HW:=(HW.trans hb).alloc (.cells #[.slice (some ⟨gr,0,none⟩) legit.length legit.length] 30);clear hb;(try clear p0 p1 p2 g0 g1 gsz);obtain ⟨p0,p1,p2,g0,g1,gsz⟩:=aA6 HW)
  | (go_at_call 103;refine (aJo _ p _ g _ (HPV.out _ (aA0 HW)) (HGV.out _ (aA0 HW)) H3.out).mono ?_;rintro e w2 ⟨SB,rfl,hSR,hSB,hsb,hb⟩;have HSB:=aA1 hSB;have HRB2:=aA1 (Blk.keep (Boxed.new w1 30 (.slice (some ⟨gr,0,none⟩) legit.length legit.length)) hb:Boxed w2 w1.heap.size 30 (.slice (some ⟨gr,0,none⟩) legit.length legit.length));have HO2:=aA1 (hb.owns (HO1.out.alloc _));have HLB2:=aA1 (Blk.keep (Boxed.alloc HLB1.out _) hb:Boxed w2 (w.heap.size+1+1) 59 (.slice A l.length ca));have hs12:=hb.size;rw [World.size_alloc] at hs12 hsb;clear hSR hSB;replace HW:=(HW.trans hb).alloc (.cells #[.pointer (some ⟨SB,0,none⟩)] 145);clear hb;(try clear p0 p1 p2 g0 g1 gsz);obtain ⟨p0,p1,p2,g0,g1,gsz⟩:=aA6 HW)
  | (go_at_call 151;refine (aJ6 _ p _ g _ (HPV.out _ (aA0 HW)) (HGV.out _ (aA0 HW)) H1.out H3.out HGL.out).mono ?_;rintro e w3 ⟨tv,rfl,htv,hb⟩;obtain ⟨AT,kt,rfl,hTR,_⟩:=(id htv:aI2 _ _ _);have HTR3:=aA1 hTR;have HSC3:=aA1 (Blk.keep (Boxed.new w2 145 (.pointer (some ⟨SB,0,none⟩))) hb:Boxed w3 w2.heap.size 145 (.pointer (some ⟨SB,0,none⟩)));have HB23:=aA1 (((Bel.refl w2).alloc _).trans hb);have hs23:=hb.size;rw [World.size_alloc] at hs23;clear hTR htv;replace HW:=(HW.trans hb).alloc (.cells #[.slice AT (aAa p g).length kt] 189);clear hb;(try clear p0 p1 p2 g0 g1 gsz);obtain ⟨p0,p1,p2,g0,g1,gsz⟩:=aA6 HW)
  | (go_at_call 181;refine (aPa _ p _ g _ (HPV.out _ (aA0 HW)) (HGV.out _ (aA0 HW)) HL.out HGL.out HFZ.out).mono ?_;rintro e w4 ⟨gb,cap,bs,rfl,hR,hb⟩;have HRC4:=aA1 (hR.lower (base':=w3.heap.size+1) (by simp));have HTB4:=aA1 (Blk.keep (Boxed.new w3 189 (.slice AT (aAa p g).length kt)) hb:Boxed w4 w3.heap.size 189 (.slice AT (aAa p g).length kt));have HB34:=aA1 (((Bel.refl w3).alloc _).trans hb);have hs34:=hb.size;rw [World.size_alloc] at hs34;clear hR;replace HW:=HW.trans hb;clear hb;(try clear p0 p1 p2 g0 g1 gsz);obtain ⟨p0,p1,p2,g0,g1,gsz⟩:=aA6 HW)
  | (go_at_call 85;refine (aHv _ _ _ _).mono ?_;rintro e w' ⟨rfl,rfl⟩))
 obtain ⟨W0,hW0⟩:∃ W0,((w4.alloc (.cells #[.slice (some ⟨gb,0,none⟩) g.ports.length cap] 30)).alloc (.cells #[.int .i64 0] 3)).alloc (.cells #[.slice (some ⟨bL,oL,none⟩) legit.length cL] 58)=W0:=⟨_,rfl⟩;have hb40:Bel w4 W0:=by rw [<- hW0];exact (((Bel.refl w4).alloc _).alloc _).alloc _
 have hz0:W0.heap.size=w4.heap.size+1+1+1:=by rw [<- hW0];simp
 have bC:Boxed W0 w4.heap.size 30 (.slice (some ⟨gb,0,none⟩) g.ports.length cap):=by rw [<- hW0];exact ((Boxed.new w4 _ _).alloc _).alloc _
 have bA:Boxed W0 (w4.heap.size+1) 3 (.int .i64 0):=by
  rw [<- hW0];have:=Boxed.new (w4.alloc (.cells #[.slice (some ⟨gb,0,none⟩) g.ports.length cap] 30)) 3 (.int .i64 0);rw [World.size_alloc] at this;exact this.alloc _
 have bX:Boxed W0 (w4.heap.size+1+1) 58 (.slice (some ⟨bL,oL,none⟩) legit.length cL):=by
  rw [<- hW0];have:=Boxed.new ((w4.alloc (.cells #[.slice (some ⟨gb,0,none⟩) g.ports.length cap] 30)).alloc (.cells #[.int .i64 0] 3)) 58 (.slice (some ⟨bL,oL,none⟩) legit.length cL);rw [World.size_alloc,World.size_alloc] at this;exact this
 have hb30:=HB34.out.trans hb40;have hb20:=HB23.out.trans hb30;have bR:Boxed W0 w1.heap.size 30 (.slice (some ⟨gr,0,none⟩) legit.length legit.length):=Blk.keep HRB2.out hb20;have bL':Boxed W0 (w.heap.size+1+1) 59 (.slice A l.length ca):=Blk.keep HLB2.out hb20;have bS:Boxed W0 w2.heap.size 145 (.pointer (some ⟨SB,0,none⟩)):=Blk.keep HSC3.out hb30;have bT:Boxed W0 w3.heap.size 189 (.slice AT (aAa p g).length kt):=Blk.keep HTB4.out hb40;have hO0:=hb20.owns HO2.out
 have hC0:RowsC W0 (w3.heap.size+1) (some ⟨gb,0,none⟩) cap p.vars.length (aBp p g 0) bs:=by
  have e:aBp p g 0=aC3 (aAa p g):=aTj HOK.out;rw [e];exact HRC4.out.keep hb40
 have hwW0:Bel w W0:=(aA0 HW).trans hb40;have hgr1:=aAf HO1.out;have hgr2:=aAf hO0;have hrl:=hC0.row_lt;have hgb:=aAf hC0.own;have hgb4:=aAf HRC4.out.own;have hw1:=HLB1.out.lt;have HZC:=aA1 (aUl (hb20.owns HO2.out) rfl);have HZ3:=aA1 (aUl (HB23.out.owns HO2.out) rfl);have HRL:=aA1 hrl;have HTE:Hid (∀ (W:World),Agr (fun q=>q=gr∨q=w4.heap.size+1∨aZe bs q) W0 W->Bel w W):=fun W hA=>hA.belE hwW0 (by rintro q (rfl | rfl | ⟨b',hb',rfl⟩);have:=hgr2.1;omega;omega;have:=(hrl b' hb').1;omega)
 have hRB:∀ N,(N<w3.heap.size+1∨w4.heap.size<=N)->¬ aZe bs N:=fun N hN ⟨b',hb',e⟩=>by have:=HRC4.out.row_lt b' hb';omega
 have HCUT:Hid (∀ W:World,Agr (fun q=>q=gr∨q=w4.heap.size+1∨aZe bs q) W0 W->∃ w0:World,Bel w0 W/\w0.heap.size=w3.heap.size+1/\aEn w0 AT (aAa p g).length (aAa p g)):=fun W hA=>by
  obtain ⟨w0,e1,e2,e3⟩:=bFj W (w3.heap.size+1) (by have:=hA.size;omega)
  refine ⟨w0,e1,e2,HTR3.out.off (fun t ht=>by rw [HTM.out t ht];exact hv1) HZ3.out (by omega) (fun k hk hne=>?_)⟩
  rw [e3 k (by omega),hA.block k (by omega) (by rintro (h | h | h);exact hne h;omega;exact hRB k (.inl (by omega)) h),hb30.block k hk]
 have HSW:Hid (∀ W:World,Agr (fun q=>q=gr∨q=w4.heap.size+1∨aZe bs q) W0 W->aI0 W SB p g):=fun W hA=>by
  refine HSB.out W (by have:=hA.size;omega) (fun k hk1 hk2=>?_) (HPV.out _ (HTE.out W hA)) (HGV.out _ (HTE.out W hA))
  rw [World.size_alloc] at hk1;rw [hA.block k (by omega) (by rintro (h | h | h);omega;omega;exact hRB k (.inl (by omega)) h),hb20.block k hk2]
 rw [hW0];clear hW0 HSB HTR3 HZ3 HZC HB23 HB34 HLB0 HLB1 HLB2 HRB2 HSC3 HTB4 HRC4 HW hb40 hb30 hb20 p0 p1 p2 g0 g1 gsz;refine (wpIn_wide (n:=5)).1 ?_
 refine aFc (n:=5) rfl (by decide) (gf:=134) (lb:=#[.pointer (some ⟨w4.heap.size+1+1,0,none⟩)]) (by simp [go_sem]) trivial (enters_of func134 (by kernel_rfl) rfl)
  (aMp 4 (w4.heap.size+1+1) bL oL cL (some ⟨bL,oL,none⟩) legit W0 (by decide) bX (Nat.lt_of_lt_of_le hbL hwW0.size) (fun _=>rfl) (fun v hv=>(hwW0.cell hbL).trans (HBC.out v hv)) (by omega)) (by rintro k h;exact h.elim) (by have:=hwW0.size;rintro k (rfl | rfl) <;> omega) (fun _=>rfl) (fun k=>k=W0.heap.size∨k=W0.heap.size+1) (fun k=>by simp)
  (fun pre W=>∃ hs,W.ownsRow (w.heap.size+1+1+1) 26 1 (.slice (some ⟨gr,0,none⟩) legit.length legit.length) legit.length hs/\aEe W (W0.heap.size+1+1) pre hs (aDz p g l)/\RowsC W (w3.heap.size+1) (some ⟨gb,0,none⟩) cap p.vars.length (aBp p g (aSt pre)) bs/\Boxed W (w4.heap.size+1) 3 (.int .i64 (aSt pre:Int))/\Agr (fun q=>q=gr∨q=w4.heap.size+1∨aZe bs q) W0 W)
  (fun c pre W=>False)
  (fun s A' B' ⟨hs,q1,q2,q3,q4,q5⟩ hg=>⟨hs,aGi q1 hg (by omega),q2.agr hg (by rintro q (h | h) <;> omega),q3.agr hg (by omega) (fun b' hb'=>by have:=(hrl b' hb').2;omega),hg.boxed q4 (by omega),q5.step hg (by rintro q hq (h | h) <;> omega)⟩)
  (fun c s A' B' h hg=>h)
  ⟨_,hO0,(fun u hu=>by cases hu),by simpa [aSt] using hC0,by simpa [aSt] using bA,Agr.refl _ _⟩
  (fun x a' W=>a'={ tmps:=#[.agg #[.string p.name,.slice A1 p.vars.length k1,.slice A2 p.rules.length k2],.agg #[.slice A3 g.ids.length k3,.slice A4 g.ports.length k4],.slice (some ⟨bL,oL,none⟩) legit.length cL,.slice A l.length ca,.pointer (some ⟨w.heap.size,0,none⟩),.pointer (some ⟨w.heap.size+1,0,none⟩),undef,.pointer (some ⟨w.heap.size+1+1,0,none⟩),.slice none 0 0,.pointer (some ⟨w1.heap.size,0,none⟩),.pointer (some ⟨w2.heap.size,0,none⟩),.pointer (some ⟨w3.heap.size,0,none⟩),.pointer (some ⟨w4.heap.size,0,none⟩),.int .i64 0,.pointer (some ⟨w4.heap.size+1,0,none⟩),.int .i64 (x:Int),.slice (some ⟨bL,oL,none⟩) legit.length cL,.int .i64 (legit.length:Int),.slice (some ⟨gr,0,none⟩) legit.length legit.length,.agg #[.string p.name,.slice A1 p.vars.length k1,.slice A2 p.rules.length k2],.agg #[.slice A3 g.ids.length k3,.slice A4 g.ports.length k4],.pointer (some ⟨SB,0,none⟩),.agg #[.string p.name,.slice A1 p.vars.length k1,.slice A2 p.rules.length k2],.agg #[.slice A3 g.ids.length k3,.slice A4 g.ports.length k4],.slice AT (aAa p g).length kt,.tuple #[.slice (some ⟨gb,0,none⟩) g.ports.length cap,.int .i64 0],.agg #[.string p.name,.slice A1 p.vars.length k1,.slice A2 p.rules.length k2],.agg #[.slice A3 g.ids.length k3,.slice A4 g.ports.length k4],.tuple #[.slice (some ⟨gb,0,none⟩) g.ports.length cap,.int .i64 0],.slice (some ⟨gb,0,none⟩) g.ports.length cap,.int .i64 0,.slice (some ⟨bL,oL,none⟩) legit.length cL,.func (.func 134) #[] #[.pointer (some ⟨w4.heap.size+1+1,0,none⟩)],.int .i64 (x:Int),undef,undef,undef,undef,undef,undef,undef,undef,undef,undef,undef,undef,undef,undef,undef,undef],defers:=[] })
  (fun _ _ _ _ h _=>h) ?assign ?body ?done ?stop
 case assign =>
  rintro pre x W K hp ⟨hs,q1,q2,q3,q4,q5⟩ hl hK
  gi_wp2
  refine hK _ _ (aBk.refl _ _) ⟨hs,q1,q2,q3,q4,q5⟩ rfl
 case stop =>
  rintro c' pre W hp h hK;exact h.elim
 case done =>
  rintro W ⟨hs,q1,q2,q3,q4,q5⟩ hK;obtain ⟨c1,f1,l1⟩:=aA5 (q5.boxed bR (by rintro (h | h | h);omega;omega;exact hRB _ (.inl (by omega)) h))
  have HQ1:=aA1 q1;have HQ2:=aA1 q2;clear q1 q2;have hbWW:=HTE.out W q5;go_wp2;refine aCe (B:=w.heap.size) (aDg.push (aDg.nil _ _) (by omega) hK (by simp)) ?_
  intro W' hA2 hs2
  exact ⟨.slice (some ⟨gr,0,none⟩) legit.length legit.length,by simp [results,Tryz.results133,go_sem],⟨_,_,rfl,(fun w2 hg=>((HQ2.out.def hA2).agr hg (by intro q h;omega)).read (legit:=legit) (aRq (aMq HQ1.out hA2) hg (fun k hk h=>by omega)) (fun k h1 h2=>aJn.2 ⟨h1,h2⟩)),hA2.bel hbWW⟩⟩
 case body =>
  rintro pre x a' W hp ⟨hs,q1,q2,q3,q4,q5⟩ rfl hl0 ⟨r,hr⟩;obtain ⟨hxl,hxf⟩:=aJn.1 (hp.subset (by simp):x∈aPc legit legit.length)
  have hlast:=bGn hp;have hwz:=hwW0.size;have HQ5:=aA1 q5;have HQ1:=aA1 q1;have HQ2:=aA1 q2;have HQ3:=aA1 q3;have HQ4:=aA1 q4;clear q1 q2 q3 hr hC0 hO0;obtain ⟨c1,f1,l1⟩:=aA5 q4
  gi_wp2
  clear c1 f1 l1 q4
  gi_loopw [] (fun wr=>∃ a:Nat,aSt pre<=a/\a<=x/\Hid (Boxed wr (w4.heap.size+1) 3 (.int .i64 (a:Int)))/\Hid (RowsC wr (w3.heap.size+1) (some ⟨gb,0,none⟩) cap p.vars.length (aBp p g a) bs)/\Hid (Agr (fun q=>q=w4.heap.size+1∨aZe bs q) W wr)) (fun wr=>x-bMa wr (w4.heap.size+1))
  case atStart=>exact ⟨aSt pre,Nat.le_refl _,hlast,HQ4,HQ3,Agr.refl _ _⟩
  case round =>
   obtain ⟨a,ha1,ha2,HA,HC,HG⟩:=hrel;have hAW:=aA1 (q5.trans (HG.out.mono (fun q h => .inr h)));obtain ⟨c1,f1,l1⟩:=aA5 HA.out
   have nb:∀ N,N≠gr->N≠w4.heap.size+1->(N<w3.heap.size+1∨w4.heap.size<=N)->¬ (N=gr∨N=w4.heap.size+1∨aZe bs N):=by
    rintro N h1 h2 h3 (h | h | h)
    .exact h1 h
    .exact h2 h
    .exact hRB N h3 h
   obtain ⟨c2,f2,l2⟩:=aA5 (hAW.out.boxed bC (nb _ (by omega) (by omega) (by omega)))
   obtain ⟨c3,f3,l3⟩:=aA5 (hAW.out.boxed bT (nb _ (by omega) (by omega) (by omega)))
   have hmk:aCp p g (aBp p g a)=0:=aEr HFZ.out (by rw [HN.out];omega)
   have hcl:=aCa hmk
   by_cases hlt:a<x
   .have hd:decide (a<x)=true:=by simpa using hlt
    obtain ⟨w0,e1,e2,e3⟩:=HCUT.out wr hAW.out;have hADV:=aQe w0 AT kt gb cap p.vars.length (aAa p g) (aBp p g a) bs wr e3 e1 (by rw [e2];exact HC.out) (aNf hmk) HTM.out HTS.out (by rw [HTL.out];exact hg24) hv10 (by rw [HTL.out];exact hg1) hv1
    rw [hcl] at hADV;have HADV:=aA1 hADV;have E2:=aA1 e2;clear hADV e1 e2 e3 hcl
    gi_wp2_with (refine ⟨trivial,?_⟩;gi_at_call 183;refine (CallsIn.inRound _ (callsIn_wide.2 HADV.out)).mono ?_;rintro e w' ⟨⟨v,rfl⟩,hC',hA'⟩;have HA':=aA1 (hA'.boxed HA.out (hRB _ (.inr (by omega))));have HC':=aA1 hC';have HG':=aA1 hA';clear hC' hA' c1 f1 l1 c2 f2 l2 c3 f3 l3;obtain ⟨c1,f1,l1⟩:=aA5 HA'.out)
    go_roundw
    case rel =>
     refine ⟨a+1,by omega,by omega,?_,?_,?_⟩
     .have:=(HA'.out).set (.int .i64 ((a:Int)+1))
      exact this
     .have h1:=HC'.out
      have e4:(aI3 (aAa p g) (aBp p g a)).1=aBp p g (a+1):=aWe HOK.out (show (0:Int)<=(a:Int) by omega) (by have:=HN.out;unfold aC7 at this;omega)
      rw [e4,E2.out] at h1;exact h1.agr (Agr.setCell (E:=fun q=>q=w4.heap.size+1) _ _ _ rfl) (by omega) (fun b' hb' h=>hRB _ (.inr (by omega)) ⟨b',hb',h⟩)
     .exact (HG.out.trans (HG'.out.mono (fun q h => .inr h))).trans (Agr.setCell _ _ _ (.inl rfl))
    case measure =>
     have e5:bMa wr (w4.heap.size+1)=a:=bFa HA.out
     have e6:bMa (w'.setCell ⟨w4.heap.size+1,0,none⟩ (.int .i64 ((a:Int)+1))) (w4.heap.size+1)=a+1:=by
      have:=(HA'.out).set (.int .i64 ((a:Int)+1));exact bFa (n:=a+1) this
     rw [e5,e6];omega
   .have hd:decide (a<x)=false:=by simpa using hlt
    obtain rfl:a=x:=by omega
    have hbW:=HTE.out wr hAW.out;have HSR:=aA1 ((HSW.out wr hAW.out).keep (Bel.refl wr).drew);have HTR':=aA1 (HTR.out _ hbW.drew);have HCV:=aA1 (by have:=(HC.out.keep (Bel.refl wr).drew).conf;rw [hcl] at this;exact this:aDf wr.drew (.slice (some ⟨gb,0,none⟩) g.ports.length cap) (aBp p g a))
    have HMK:=aA1 hmk;have hne1:gr≠w4.heap.size+1:=by omega
    have HR0:=aA1 (aGi HQ1.out HG.out (by rintro (h | h);exact hne1 h;exact hRB _ (.inl (by omega)) h))
    have HV0:=aA1 (HQ2.out.agr HG.out (by rintro q (h | ⟨b',hb',h⟩);omega;have:=(hrl b' hb').2;omega))
    have hlW:W0.heap.size+1<wr.heap.size:=Nat.lt_of_lt_of_le hl0 HG.out.size;have hhs:hs.length=legit.length:=by have:=HQ1.out.1;omega
    obtain ⟨c4,f4,l4⟩:=aA5 (hAW.out.boxed bR (nb _ (by omega) (by omega) (by omega)))
    obtain ⟨c5,f5,l5⟩:=aA5 (hAW.out.boxed bS (nb _ (by omega) (by omega) (by omega)))
    obtain ⟨c6,f6,l6⟩:=aA5 (hAW.out.boxed bL' (nb _ (by omega) (by omega) (by omega)))
    have hkI:(a:Int)<(legit.length:Int):=by omega
    clear hmk hcl c3 f3 l3
    gi_wp2
    rename_i QQ _ _ _
    subst QQ;refine aAd.startIn (fun w':World=>w'.cell? ⟨w1.heap.size,0,none⟩=some (.slice (some ⟨gr,0,none⟩) legit.length legit.length)/\w'.cell? ⟨w2.heap.size,0,none⟩=some (.pointer (some ⟨SB,0,none⟩))/\w'.cell? ⟨w4.heap.size,0,none⟩=some (.slice (some ⟨gb,0,none⟩) g.ports.length cap)/\w'.cell? ⟨w.heap.size+1+1,0,none⟩=some (.slice A l.length ca)/\w1.heap.size<w'.heap.size/\w2.heap.size<w'.heap.size/\w4.heap.size<w'.heap.size/\w.heap.size+1+1<w'.heap.size) 7 (by kernel_rfl) (by kernel_rfl) (by rintro ⟨_,_,h⟩;exact h) ?_
    have hHeld:(fun w':World=>w'.cell? ⟨w1.heap.size,0,none⟩=some (.slice (some ⟨gr,0,none⟩) legit.length legit.length)/\w'.cell? ⟨w2.heap.size,0,none⟩=some (.pointer (some ⟨SB,0,none⟩))/\w'.cell? ⟨w4.heap.size,0,none⟩=some (.slice (some ⟨gb,0,none⟩) g.ports.length cap)/\w'.cell? ⟨w.heap.size+1+1,0,none⟩=some (.slice A l.length ca)/\w1.heap.size<w'.heap.size/\w2.heap.size<w'.heap.size/\w4.heap.size<w'.heap.size/\w.heap.size+1+1<w'.heap.size) wr.drew:=⟨c4,c5,c2,c6,l4,l5,l2,l6⟩
    (refine aAd.t (v:=?_) 0 42 rfl rfl (by kernel_rfl) (fun _ _ _ h=>h) hHeld (Or.inl ⟨by rfl,?_⟩) ?_;rotate_left 1;focus (intro w' hSw;(try dsimp only at hSw);go_simp;(try with_reducible rfl);done));(refine aAd.t (v:=?_) 1 43 rfl rfl (by kernel_rfl) (fun _ _ _ h=>h) hHeld (Or.inl ⟨by rfl,?_⟩) ?_;rotate_left 1;focus (intro w' hSw;(try dsimp only at hSw);go_simp;(try with_reducible rfl);done));(refine aAd.t (v:=?_) 2 44 rfl rfl (by kernel_rfl) (fun _ _ _ h=>h) hHeld (Or.inl ⟨by rfl,?_⟩) ?_;rotate_left 1;focus (intro w' hSw;(try dsimp only at hSw);go_simp;(try with_reducible rfl);done));(refine aAd.t (v:=?_) 3 45 rfl rfl (by kernel_rfl) (fun _ _ _ h=>h) hHeld (Or.inl ⟨by rfl,?_⟩) ?_;rotate_left 1;focus (intro w' hSw;(try dsimp only at hSw);go_simp;(try with_reducible rfl);done));(refine aAd.t (v:=?_) 4 46 rfl rfl (by kernel_rfl) (fun _ _ _ h=>h) hHeld (Or.inl ⟨by rfl,?_⟩) ?_;rotate_left 1;focus (intro w' hSw;(try dsimp only at hSw);go_simp;(try with_reducible rfl);done))
    refine aAd.one (i:=5) (by kernel_rfl) rfl (fun K hK=>?_)
    go_simp
    go_at_call 102
    refine (aQl SB p g _ (aBp p g a) A ca l wr.drew HSR.out HCV.out HTR'.out HMK.out HEO.out hl).mono ?_
    rintro e w5 ⟨RA,rk,rfl,hR,hb⟩;have HR5:=aA1 (hb.owns (show wr.drew.ownsRow _ _ _ _ _ _ from HR0.out))
    have HV5:=aA1 ((show aEe wr.drew _ _ _ _ from HV0.out).agr (Agr.bel' (E:=fun _=>False) hb) (fun q h=>h.elim))
    have HC5:=aA1 ((HC.out.keep (Bel.refl wr).drew).keep hb);have HA5:=aA1 (Blk.keep (show Blk wr.drew _ _ _ from HA.out) hb:Boxed w5 (w4.heap.size+1) 3 (.int .i64 (a:Int)))
    have HI5:=aA1 (aGj hR);have HN5:=aA1 (bJj hR);have HB5:=aA1 ((Bel.refl wr).drew.trans hb)
    (try go_simp)
    have hfz:=HR5.out.frozenAt a;have hgl5:=(aAf HR5.out).2;have hyi:=aC8 HR5.out a (by omega)
    have hHeld5:(fun w':World=>w'.cell? ⟨w1.heap.size,0,none⟩=some (.slice (some ⟨gr,0,none⟩) legit.length legit.length)/\w'.cell? ⟨w2.heap.size,0,none⟩=some (.pointer (some ⟨SB,0,none⟩))/\w'.cell? ⟨w4.heap.size,0,none⟩=some (.slice (some ⟨gb,0,none⟩) g.ports.length cap)/\w'.cell? ⟨w.heap.size+1+1,0,none⟩=some (.slice A l.length ca)/\w1.heap.size<w'.heap.size/\w2.heap.size<w'.heap.size/\w4.heap.size<w'.heap.size/\w.heap.size+1+1<w'.heap.size) w5:=⟨(hb.cell l4).trans c4,(hb.cell l5).trans c5,(hb.cell l2).trans c2,(hb.cell l6).trans c6,Nat.lt_of_lt_of_le l4 hb.size,Nat.lt_of_lt_of_le l5 hb.size,Nat.lt_of_lt_of_le l2 hb.size,Nat.lt_of_lt_of_le l6 hb.size⟩;refine hK.out _ _ (fun _=>hHeld5) ?_
    clear hK K hHeld hR hb c1 f1 l1 c2 f2 l2 c4 f4 l4 c5 f5 l5 c6 f6 l6;have hHeld:=hHeld5;clear hHeld5
    (try simp only [Act.put,List.setIfInBounds_toArray,List.set_cons_zero,List.set_cons_succ])
    (refine aAd.t (v:=?_) 6 48 rfl rfl (by kernel_rfl) (fun _ _ _ h=>h) hHeld (Or.inl ⟨by rfl,?_⟩) ?_;rotate_left 1;focus (intro w' hSw;(try dsimp only at hSw);go_simp;(try with_reducible rfl);done))
    (refine aAd.one (i:=7) (by kernel_rfl) rfl (fun K hK=>?_));go_simp;refine hK.out _ _ (fun h=>absurd rfl h) ?_;clear hK K;refine aAd.done (by kernel_rfl) ?_ _;(try simp only [Act.put,List.setIfInBounds_toArray,List.set_cons_zero,List.set_cons_succ])
    refine ⟨?_,hs.set a (.slice RA (aDz p g l a).length rk),(HR5.out.stored a _).1,?_,?_,?_,?_⟩
    .refine (aBk.of_agr HG.out ?_).trans ((aBk.of_bel HB5.out).trans (aBk.setCell _ _ _ ?_))
     .have hbb:=hwz
      rintro k ((h | h) | (h | h)) (h' | h')
      all_goals first | omega | (exact hRB k (by omega) h')
     .rintro ((h | h) | (h | h)) <;> (dsimp only at h;omega)
    .have h1:=HV5.out.set (k:=a) (V:=aDz p g l) (by omega) (X:=RA) (c:=rk) HI5.out (fun b' o' e'=>by have:wr.drew.heap.size<=b':=HN5.out b' o' e';have e9:wr.drew.heap.size=wr.heap.size:=rfl;omega)
     exact h1.agr (Agr.setCell (E:=fun q=>q=gr) _ _ _ rfl) (by rintro q h;omega)
    .rw [aTm]
     exact HC5.out.agr (Agr.setCell (E:=fun q=>q=gr) _ _ _ rfl) (by omega) (fun b' hb' h=>by have:=(HC5.out.row_lt b' hb').1;omega)
    .rw [aTm]
     exact Blk.other HA5.out (by simpa using Ne.symm hne1) _
    .exact (hAW.out.trans (Agr.bel' HB5.out)).trans (Agr.setCell _ _ _ (.inl rfl))
end Go.Proofs.YtmifhmdghfbalaaGreatDoor

namespace Go.Proofs.YtmifhmdghfbalaaGreatDoor
open Go.RowKit
theorem aMc.at_ {w:World} {A:Option Addr} {n:Nat} {xs:List (Nat × Int)} (h:aMc w A n xs) (k:Nat) (hk:k<xs.length) :
  ∃ b o,A=some ⟨b,o,none⟩/\b<w.heap.size/\w.cell? ⟨b,o+k*2,none⟩=some (.int .u32 (xs[k].1:Int))/\w.cell? ⟨b,o+k*2+1,none⟩=some (.int .i64 xs[k].2):=aAh.at_ h k hk
theorem aLa.at_ {w:World} {A:Option Addr} {n:Nat} {xs:List (List (Nat × Int))} (h:aLa w A n xs) (k:Nat) (hk:k<xs.length) :
  ∃ b o R c,A=some ⟨b,o,none⟩/\b<w.heap.size/\w.cell? ⟨b,o+k,none⟩=some (.slice R xs[k].length c)/\aMc w R xs[k].length xs[k]/\xs[k].length<=c/\c<=maxLen:=RowsAt.at_ h k hk
theorem aRd:∀ {a b:List Int} (x y:List Int),aJl a b=true->aJl (a++x) (b++y)=true
 | [],b,_,_,h=>by unfold aJl at h;cases h
 | u :: a,[],_,_,h=>by unfold aJl at h;cases h
 | u :: a,v :: b,x,y,h=>by
  unfold aJl at h;rw [List.cons_append,List.cons_append];unfold aJl
  by_cases e:u=v
  .rw [if_pos e] at h ⊢;exact aRd x y h
  .rw [if_neg e] at h ⊢;exact h
theorem aXq {a b x y:List Int} (hl:x.length=y.length) (h:aBx a b=true):aBx (a++x) (b++y)=true:=by
 unfold aBx at *;simp only [Bool.and_eq_true,decide_eq_true_eq] at *
 exact ⟨by simp [h.1,hl],aRd x y h.2⟩
theorem aSm (p:Prg) (g:Graph) (l m:List (List Term)) (k:Nat):aDz p g (l++m) k=aDz p g l k++aDz p g m k:=by unfold aDz aPj;rw [List.map_append]
theorem aSn (p:Prg) (g:Graph) (l:List (List Term)) (k:Nat):(aDz p g l k).length=l.length:=aFb _ _ _
theorem bDd {legit:List Bool} {ls:List (List (Nat × Int))} {V W:Nat->List Int} (h:∀ i j,aBx (V i) (V j)=true->aBx (W i) (W j)=true) {k:Nat} (hg:aFy legit ls V k=true):aFy legit ls W k=true:=by
 unfold aFy at *;simp only [Bool.and_eq_true,decide_eq_true_eq,List.all_eq_true,Bool.or_eq_true] at *
 exact ⟨hg.1,fun x hx=>(hg.2 x hx).imp_right (h _ _)⟩
theorem aWq {p:Prg} {g:Graph} {kind:Int} {legit:List Bool} {l:List (List Term)} (h:(aC9 p g kind legit l).2=0) :
  (aBj p g kind).2=0/\aD6 p l=true/\legit.length=(aBj p g kind).1.enabled.length/\∀ k,k<legit.length->legit.getD k false=false->aFy legit (aBj p g kind).1.arcs (aDz p g l) k=true:=by
 unfold aC9 at h;split at h
 .rename_i h1;exact absurd h h1
 rename_i h1
 split at h
 .cases h
 rename_i h2
 rw [Bool.not_eq_false,Bool.and_eq_true,decide_eq_true_iff] at h2;refine ⟨by simpa using h1,h2.1,h2.2,fun k hk hl=>?_⟩
 have:=bFq h k hk;unfold aZa at this;rw [hl] at this;simpa using this
theorem aWp {p:Prg} {g:Graph} {kind:Int} {legit:List Bool} {l:List (List Term)} (h1:(aBj p g kind).2=0) (h2:aD6 p l=true) (h3:legit.length=(aBj p g kind).1.enabled.length)
  (h4:∀ k,k<legit.length->legit.getD k false=false->aFy legit (aBj p g kind).1.arcs (aDz p g l) k=true):aC9 p g kind legit l=(-1,0):=by
 unfold aC9;rw [if_neg (by rw [h1];simp),h2,decide_eq_true h3,if_neg (by simp)]
 refine aMf fun k hk=>?_
 unfold aZa;cases hl:legit.getD k false with
 | true=>rfl
 | false=>rw [h4 k hk hl];rfl
theorem aW6 {p:Prg} {l m:List (List Term)} (h:aD6 p l=true) (k:aD6 p m=true) (hn:l.length+m.length<=6):aD6 p (l++m)=true:=by
 obtain ⟨a1,a2,_,a4⟩:=aCk h;obtain ⟨_,_,_,b4⟩:=aCk k;unfold aD6;simp only [Bool.and_eq_true,decide_eq_true_eq,List.all_eq_true,List.length_append]
 refine ⟨⟨a1,by omega,hn⟩,fun e he=>?_⟩
 rcases List.mem_append.1 he with h | h
 .exact a4 e h
 .exact b4 e h
theorem aZs {p:Prg} {g:Graph} {kind:Int} {legit:List Bool} {l m:List (List Term)} (h:(aC9 p g kind legit l).2=0) (hm:aD6 p m=true) (hn:l.length+m.length<=6):aC9 p g kind legit (l++m)=(-1,0):=by
 obtain ⟨h1,h2,h3,h4⟩:=aWq h;refine aWp h1 (aW6 h2 hm hn) h3 fun k hk hl=>bDd (fun i j hij=>?_) (h4 k hk hl)
 rw [aSm,aSm];exact aXq (by rw [aSn,aSn]) hij
def bBh (V:Nat->List Int) (n k:Nat):Nat:=((List.range n).filter fun j=>aBx (V j) (V k)).length
theorem aZm {V:Nat->List Int} {n t k:Nat} (ht:t<n) (h:aBx (V t) (V k)=true):bBh V n t<bBh V n k:=by
 unfold bBh
 have hsub:((List.range n).filter fun j=>aBx (V j) (V t)).Sublist ((List.range n).filter fun j=>aBx (V j) (V k)):=by
  have e:((List.range n).filter fun j=>aBx (V j) (V t))=((List.range n).filter fun j=>aBx (V j) (V k)).filter fun j=>aBx (V j) (V t):=by
   rw [List.filter_filter];refine List.filter_congr fun j _=>?_
   cases hj:aBx (V j) (V t) with
   | false=>rfl
   | true=>rw [aR9 hj h];rfl
  rw [e];exact List.filter_sublist
 rcases Nat.lt_or_ge (((List.range n).filter fun j=>aBx (V j) (V t)).length) (((List.range n).filter fun j=>aBx (V j) (V k)).length) with h1 | h1
 .exact h1
 .exfalso
  have e:=hsub.eq_of_length_le h1;have hm:t∈(List.range n).filter fun j=>aBx (V j) (V k):=List.mem_filter.2 ⟨List.mem_range.2 ht,h⟩;rw [<- e] at hm;have:=(List.mem_filter.1 hm).2;rw [bG5] at this;cases this
theorem bFh {n:Nat} {out:Nat->Bool} {V:Nat->List Int} (h:∀ k,k<n->out k=true->∃ t,t<n/\out t=true/\aBx (V t) (V k)=true):∀ k,k<n->out k=false:=by
 have key:∀ m k,bBh V n k<m->k<n->out k=false:=by
  intro m
  induction m with
  | zero=>intro k h;omega
  | succ m ih =>
   intro k hm hk
   cases ho:out k with
   | false=>rfl
   | true =>
    obtain ⟨t,ht,h1,h2⟩:=h k hk ho;have:=ih t (by have:=aZm ht h2;omega) ht
    rw [this] at h1;cases h1
 exact fun k hk=>key _ k (Nat.lt_succ_self _) hk
theorem bGb:∀ (l:List Int) (a:Int),a<=l.foldl max a/\∀ x∈l,x<=l.foldl max a
 | [],a=>⟨Int.le_refl _,fun x h=>by cases h⟩
 | y :: l,a=>by
  obtain ⟨h1,h2⟩:=bGb l (max a y);rw [List.foldl_cons];refine ⟨by omega,fun x hx=>?_⟩
  rcases List.mem_cons.1 hx with rfl | h
  .omega
  .exact h2 x h
theorem bGd:∀ (l:List Int) (a:Int),l.foldl min a<=a/\∀ x∈l,l.foldl min a<=x
 | [],a=>⟨Int.le_refl _,fun x h=>by cases h⟩
 | y :: l,a=>by
  obtain ⟨h1,h2⟩:=bGd l (min a y);rw [List.foldl_cons];refine ⟨by omega,fun x hx=>?_⟩
  rcases List.mem_cons.1 hx with rfl | h
  .omega
  .exact h2 x h
theorem aUb (a:Int) (l:List Int):aSe (a :: l)=l.foldl max a-l.foldl min a+1:=rfl
theorem bJs (l:List Int):∃ lo:Int,0<=aSe l/\∀ x∈l,lo<=x/\x-lo+1<=aSe l:=by
 cases l with
 | nil=>exact ⟨0,by decide,fun x h=>by cases h⟩
 | cons a l =>
  obtain ⟨h1,h2⟩:=bGb l a;obtain ⟨h3,h4⟩:=bGd l a;refine ⟨l.foldl min a,by rw [aUb];omega,fun x hx=>?_⟩
  rw [aUb]
  rcases List.mem_cons.1 hx with rfl | h
  .omega
  .have:=h2 x h
   have:=h4 x h;omega
def aMz (p:Prg) (g:Graph) (e:List Term) (k:Nat):Int:=(aDz p g [e] k).headD 0
theorem aO3 (p:Prg) (g:Graph) (e:List Term) (k:Nat):aDz p g [e] k=[aMz p g e k]:=by unfold aMz aDz aPj;rfl
theorem bG6 {a b:Int}:aBx [a] [b]=decide (a<b):=by
 unfold aBx;rw [show ([a]:List Int).length=1 from rfl,show ([b]:List Int).length=1 from rfl,decide_eq_true rfl,Bool.true_and]
 unfold aJl
 by_cases h:a=b
 .subst h;rw [if_pos rfl];unfold aJl;simp
 .rw [if_neg h]
def bBj (p:Prg) (g:Graph) (legit:List Bool) (e:List Term) (lo:Int) (k:Nat):Int:=if legit.getD k false=true then 0 else aMz p g e k-lo+1
theorem aXy {p:Prg} {g:Graph} {legit:List Bool} {e:List Term} {n k:Nat} (hk:k<n) (hl:legit.getD k false=false):aMz p g e k∈aF0 p g legit e n :=
 List.mem_map.2 ⟨k,List.mem_filter.2 ⟨List.mem_range.2 hk,by rw [hl];rfl⟩,rfl⟩
theorem bIy {p:Prg} {g:Graph} {legit:List Bool} {ls:List (List (Nat × Int))} {l:List (List Term)} {k:Nat} (h:aFy legit ls (aDz p g l) k=true) {x:Nat × Int} (hx:x∈ls.getD k []) :
  legit.getD x.2.toNat false=true∨aBx (aDz p g l x.2.toNat) (aDz p g l k)=true:=by
 unfold aFy at h;rw [Bool.and_eq_true,List.all_eq_true] at h;have:=h.2 x hx
 rwa [Bool.or_eq_true] at this
theorem bFt {legit:List Bool} {ls:List (List (Nat × Int))} {V:Nat->List Int} {k:Nat} (h:aFy legit ls V k=true):0<(ls.getD k []).length:=by
 unfold aFy at h;rw [Bool.and_eq_true,decide_eq_true_iff] at h;exact h.1
theorem bIj {p:Prg} {g:Graph} {legit:List Bool} {ls:List (List (Nat × Int))} {e:List Term} {lo:Int} {k n:Nat} (hk:k<n) (hl:legit.getD k false=false) (h:aFy legit ls (aDz p g [e]) k=true)
  (hlo:∀ x∈aF0 p g legit e n,lo<=x) {x:Nat × Int} (hx:x∈ls.getD k []) {o:Int} (ho:o<=bBj p g legit e lo x.2.toNat):1+o<=bBj p g legit e lo k:=by
 have h1:=hlo _ (aXy hk hl);have hc:bBj p g legit e lo k=aMz p g e k-lo+1:=by unfold bBj;rw [hl];simp
 rw [hc]
 by_cases ht:legit.getD x.2.toNat false=true
 .unfold bBj at ho
  rw [if_pos ht] at ho;omega
 .have h2:=bIy h hx
  rcases h2 with h2 | h2
  .exact absurd h2 ht
  .rw [aO3,aO3,bG6,decide_eq_true_iff] at h2
   unfold bBj at ho;rw [if_neg ht] at ho;omega
theorem bFd {p:Prg} {g:Graph} {legit:List Bool} {e:List Term} {n:Nat}:∃ lo:Int,0<=aSe (aF0 p g legit e n)/\(∀ x∈aF0 p g legit e n,lo<=x)/\∀ k,k<n->0<=bBj p g legit e lo k/\bBj p g legit e lo k<=aSe (aF0 p g legit e n):=by
 obtain ⟨lo,h0,h1⟩:=bJs (aF0 p g legit e n);refine ⟨lo,h0,fun x hx=>(h1 x hx).1,fun k hk=>?_⟩
 unfold bBj;cases hl:legit.getD k false with
 | true=>rw [if_pos rfl];exact ⟨Int.le_refl _,h0⟩
 | false =>
  rw [if_neg (by decide)]
  have:=h1 _ (aXy (p:=p) (g:=g) (e:=e) hk hl);omega
def aR5 (l:List (Nat × Int)) (o:List Bool):Nat:=(l.filter fun x=>o.getD x.2.toNat false).length
def bHa (ls:List (List (Nat × Int))) (o:List Bool) (k:Nat):Prop:=o.getD k false=true->(ls.getD k []).length=0∨aR5 (ls.getD k []) o≠0
def aTc:List Bool->Nat
 | []=>0
 | b :: l=>(if b=true then 1 else 0)+aTc l
theorem aZ3:∀ {o:List Bool} {k:Nat},o[k]?=some true->aTc (o.set k false)+1=aTc o
 | [],k,h=>by simp at h
 | b :: l,0,h=>by
  obtain rfl:b=true:=by simpa using h
  simp [aTc];omega
 | b :: l,k+1,h=>by
  have:=aZ3 (o:=l) (k:=k) (by simpa using h)
  simp only [List.set_cons_succ,aTc]
  omega
theorem bEc {n:Nat} {legit o:List Bool} {ls:List (List (Nat × Int))} {V:Nat->List Int} (ho:∀ k,k<n->o.getD k false=true->legit.getD k false=false) (hg:∀ k,k<n->legit.getD k false=false->aFy legit ls V k=true)
  (hto:∀ k,k<n->∀ x∈ls.getD k [],x.2.toNat<n) (hs:∀ k,k<n->bHa ls o k):∀ k,k<n->o.getD k false=false:=by
 refine bFh (V:=V) fun k hk h=>?_
 have hgk:=hg k hk (ho k hk h);have hpos:=bFt hgk
 rcases hs k hk h with h0 | h0
 .omega
 .have hl:0<aR5 (ls.getD k []) o:=by omega
  unfold aR5 at hl;obtain ⟨x,hx⟩:=List.exists_mem_of_length_pos hl;obtain ⟨hx,hox⟩:=List.mem_filter.1 hx;have ht:=hto k hk x hx;refine ⟨x.2.toNat,ht,hox,?_⟩
  have hlx:=ho _ ht hox;unfold aFy at hgk;rw [Bool.and_eq_true,List.all_eq_true] at hgk;have:=hgk.2 x hx;rw [hlx,Bool.false_or] at this;exact this
theorem aVb {o:List Bool} {k j:Nat} (hk:k<o.length):(o.set k false).getD j false=if j=k then false else o.getD j false:=by
 rw [List.getD_eq_getElem?_getD,List.getD_eq_getElem?_getD,List.getElem?_set]
 by_cases h:k=j
 .subst h;simp [hk]
 .rw [if_neg h,if_neg (Ne.symm h)]
theorem aSk:∀ {o:List Int} {k:Nat} {a y:Int},o[k]?=some a->(o.set k y).sum=o.sum+(y-a)
 | [],k,a,y,h=>by simp at h
 | b :: l,0,a,y,h=>by
  obtain rfl:b=a:=by simpa using h
  simp only [List.set_cons_zero,List.sum_cons];omega
 | b :: l,k+1,a,y,h=>by
  have:=aSk (o:=l) (k:=k) (y:=y) (by simpa using h)
  simp only [List.set_cons_succ,List.sum_cons,this];omega
theorem aUf:∀ {o c:List Int},o.length=c.length->(∀ (k:Nat) (a b:Int),o[k]?=some a->c[k]?=some b->a<=b)->o.sum<=c.sum
 | [],[],_,_=>by simp
 | [],_ :: _,h,_=>by simp at h
 | _ :: _,[],h,_=>by simp at h
 | x :: o,y :: c,h,hle=>by
  have h1:=hle 0 x y rfl rfl;have h2:=aUf (o:=o) (c:=c) (by simpa using h) (fun k a b ha hb=>hle (k+1) a b (by simpa using ha) (by simpa using hb))
  simp only [List.sum_cons];omega
def aG2 (cap:Nat->Int) (n:Nat) (o:List Int):Prop:=o.length=n/\∀ k a,o[k]?=some a->0<=a/\a<=cap k
theorem aG2.start {cap:Nat->Int} {n:Nat} (h:∀ k,k<n->0<=cap k):aG2 cap n (List.replicate n 0):=by
 refine ⟨by simp,fun k a ha=>?_⟩
 obtain ⟨hk,rfl⟩:=List.getElem?_eq_some_iff.1 ha;simp only [List.length_replicate] at hk
 simp only [List.getElem_replicate]
 exact ⟨Int.le_refl _,h k hk⟩
theorem aG2.set {cap:Nat->Int} {n:Nat} {o:List Int} (h:aG2 cap n o) {k:Nat} {y:Int} (h0:0<=y) (h1:y<=cap k):aG2 cap n (o.set k y):=by
 refine ⟨by rw [List.length_set];exact h.1,fun j a ha=>?_⟩
 rw [List.getElem?_set] at ha
 by_cases e:k=j
 .subst e
  rw [if_pos rfl] at ha;split at ha
  .obtain rfl:y=a:=by simpa using ha
   exact ⟨h0,h1⟩
  .cases ha
 .rw [if_neg e] at ha;exact h.2 j a ha
def bK3 (cap:Nat->Int) (n:Nat) (o:List Int):Nat:=(((List.range n).map cap).sum-o.sum).toNat
theorem aG2.gap {cap:Nat->Int} {n:Nat} {o:List Int} (h:aG2 cap n o) {k:Nat} {a y:Int} (ha:o[k]?=some a) (h1:y<=cap k) (hy:a<y):bK3 cap n (o.set k y)<bK3 cap n o:=by
 have hw:=h.set (k:=k) (y:=y) (by have:=(h.2 k a ha).1;omega) h1
 have hs:=aUf (o:=o.set k y) (c:=(List.range n).map cap) (by rw [hw.1];simp) (fun j u b hu hb=>by
  have hj:j<n:=by have:=(List.getElem?_eq_some_iff.1 hu).1;rw [hw.1] at this;exact this
  obtain rfl:cap j=b:=by simpa [hj] using hb
  exact (hw.2 j u hu).2)
 have he:=aSk (y:=y) ha;unfold bK3;omega
def aGe:List Int->Bool × Int × Int
 | []=>(false,0,0)
 | x :: xs=>(true,xs.foldl min x,xs.foldl max x)
theorem aUc (l:List Int) (x:Int):aGe (l++[x])=if (aGe l).1=true then (true,min (aGe l).2.1 x,max (aGe l).2.2 x) else (true,x,x):=by
 cases l with
 | nil=>rfl
 | cons a l =>
  show (true,(l++[x]).foldl min a,(l++[x]).foldl max a)=_
  rw [List.foldl_append,List.foldl_append];rfl
theorem bB2 (l:List Int):aSe l=if (aGe l).1=true then (aGe l).2.2-(aGe l).2.1+1 else 0:=by
 cases l <;> rfl
theorem aV3 (f:Int->Int->Int) {B:Int} (hf:∀ x y,-B<=x->x<=B -> -B<=y->y<=B -> -B<=f x y/\f x y<=B):∀ (l:List Int) (a:Int),-B<=a->a<=B->(∀ x∈l,-B<=x/\x<=B) -> -B<=l.foldl f a/\l.foldl f a<=B
 | [],a,h1,h2,_=>⟨h1,h2⟩
 | x :: l,a,h1,h2,h=>by
  have hx:=h x List.mem_cons_self;have hf2:=hf a x h1 h2 hx.1 hx.2;exact aV3 f hf l (f a x) hf2.1 hf2.2 fun y hy=>h y (List.mem_cons_of_mem _ hy)
theorem aW1 {B:Int} (hB:0<=B) {l:List Int} (h:∀ x∈l,-B<=x/\x<=B):(-B<=(aGe l).2.1/\(aGe l).2.1<=B)/\(-B<=(aGe l).2.2/\(aGe l).2.2<=B):=by
 cases l with
 | nil=>simp only [aGe];omega
 | cons a l =>
  have ha:=h a List.mem_cons_self;have hl:∀ x∈l,-B<=x/\x<=B:=fun x hx=>h x (List.mem_cons_of_mem _ hx);exact ⟨aV3 min (fun x y _ _ _ _=>by omega) l a ha.1 ha.2 hl,aV3 max (fun x y _ _ _ _=>by omega) l a ha.1 ha.2 hl⟩
theorem bHq {p:Prg} {g:Graph} {legit:List Bool} {e:List Term} {n:Nat} (h:legit.getD n false=false):aF0 p g legit e (n+1)=aF0 p g legit e n++[aMz p g e n]:=by
 unfold aF0 aMz;rw [List.range_succ,List.filter_append,List.map_append,List.filter_cons_of_pos (by rw [h];rfl)];rfl
theorem bJw {p:Prg} {g:Graph} {legit:List Bool} {e:List Term} {n:Nat} (h:legit.getD n false=true):aF0 p g legit e (n+1)=aF0 p g legit e n:=by
 unfold aF0;rw [List.range_succ,List.filter_append,List.filter_cons_of_neg (by rw [h];simp),List.filter_nil,List.append_nil]
def aPh (p:Prg) (g:Graph) (m:Int):Bool:=aFr p g&&((decide ((aAs p g).2≠0)&&decide ((aAs p g).2≠3))||(decide ((aAs p g).2=0)&&decide ((aAs p g).1<=m)))
theorem aYz {p:Prg} {g:Graph} {m:Int} (h:aPh p g m=true):aAt p=true/\aB3 g=true/\((aAs p g).2=0->aC7 p g<=m)/\(aAs p g).2≠3:=by
 unfold aPh at h;rw [Bool.and_eq_true] at h;obtain ⟨h1,h2⟩:=h;refine ⟨(aE8 h1).1,(aE8 h1).2,fun h0=>?_,fun h3=>?_⟩
 .rw [h0] at h2
  simp at h2
  obtain ⟨n,e⟩:∃ x,aAs p g=x:=⟨_,rfl⟩;obtain ⟨n,e1⟩:=n;rw [e] at h0 h2;subst h0;have:=(aQ5 e.symm).2;simp at h2
  omega
 .rw [h3] at h2
  simp at h2
theorem aSd (v1:Value) (p:Prg) (v2:Value) (g:Graph) (m:Int) (w:World) (h:aE0 w v1 p) (h2:aAl w v2 g) :
  Calls prog 80 #[v1,v2,.int .i64 m] w fun e w'=>e = .returned (.bool (aPh p g m))/\Bel w w':=by
 have HPV:=aA1 (fun w' (k:Bel w w')=>h.keep k);have HGV:=aA1 (fun w' (k:Bel w w')=>h2.keep k);obtain ⟨A1,k1,A2,k2,rfl,_,_,_,_,_,_⟩:=h;obtain ⟨A3,k3,A4,k4,rfl,_,_,_,_,_,_⟩:=h2;have HW:=Bel.refl ((w.alloc (.cells #[.string p.name,.slice A1 p.vars.length k1,.slice A2 p.rules.length k2] 25)).alloc (.cells #[.slice A3 g.ids.length k3,.slice A4 g.ports.length k4] 29));have HF:Hid (aPh p g m=(aFr p g&&((decide ((aAs p g).2≠0)&&decide ((aAs p g).2≠3))||(decide ((aAs p g).2=0)&&decide ((aAs p g).1<=m))))):=rfl;cases hq:aFr p g with
 | false =>
  rw [hq] at HF;go_enter func80,ntmps80
  go_wp2_with (go_at_call 57;refine (aGt _ p _ g _ (HPV.out _ (aA0 HW)) (HGV.out _ (aA0 HW))).mono ?_;rintro e w' ⟨rfl,hb⟩;rw [hq];replace HW:=HW.trans hb;clear hb;(try clear p0 p1 p2 g0 g1 gsz);obtain ⟨p0,p1,p2,g0,g1,gsz⟩:=aA6 HW)
  go_ret;exact ⟨aA2 (by rw [HF.out];rfl),aA0 HW⟩
 | true =>
  rw [hq] at HF;have HL:=aA1 (aE8 hq).1;have HGL:=aA1 (aE8 hq).2;obtain ⟨x,hx⟩:∃ x,aAs p g=x:=⟨_,rfl⟩;obtain ⟨n0,e0⟩:=x;rw [hx] at HF;have HNT:=aA1 hx;clear hx
  by_cases h0:e0=0
  .subst h0
   have hd:(decide (n0<=m))=decide (n0<=m):=rfl;cases hc:decide (n0<=m) with
   | true =>
    rw [hc] at HF;go_enter func80,ntmps80
    go_wp2_with (first
     | (go_at_call 57;refine (aGt _ p _ g _ (HPV.out _ (aA0 HW)) (HGV.out _ (aA0 HW))).mono ?_;rintro e w' ⟨rfl,hb⟩;rw [hq];replace HW:=HW.trans hb;clear hb;(try clear p0 p1 p2 g0 g1 gsz);obtain ⟨p0,p1,p2,g0,g1,gsz⟩:=aA6 HW)
     | (go_at_call 87;refine (aCj _ p _ g _ (HPV.out _ (aA0 HW)) (HGV.out _ (aA0 HW)) HL.out HGL.out).mono ?_;rintro e w' ⟨rfl,hb⟩;rw [HNT.out];replace HW:=HW.trans hb;clear hb;(try clear p0 p1 p2 g0 g1 gsz);obtain ⟨p0,p1,p2,g0,g1,gsz⟩:=aA6 HW))
    go_ret;exact ⟨aA2 (by rw [HF.out];rfl),aA0 HW⟩
   | false =>
    rw [hc] at HF;go_enter func80,ntmps80
    go_wp2_with (first
     | (go_at_call 57;refine (aGt _ p _ g _ (HPV.out _ (aA0 HW)) (HGV.out _ (aA0 HW))).mono ?_;rintro e w' ⟨rfl,hb⟩;rw [hq];replace HW:=HW.trans hb;clear hb;(try clear p0 p1 p2 g0 g1 gsz);obtain ⟨p0,p1,p2,g0,g1,gsz⟩:=aA6 HW)
     | (go_at_call 87;refine (aCj _ p _ g _ (HPV.out _ (aA0 HW)) (HGV.out _ (aA0 HW)) HL.out HGL.out).mono ?_;rintro e w' ⟨rfl,hb⟩;rw [HNT.out];replace HW:=HW.trans hb;clear hb;(try clear p0 p1 p2 g0 g1 gsz);obtain ⟨p0,p1,p2,g0,g1,gsz⟩:=aA6 HW))
    go_ret;exact ⟨aA2 (by rw [HF.out];rfl),aA0 HW⟩
  .have d0:(e0==0)=false:=by simpa using h0
   have d0n:(e0 != 0)=true:=by simpa using h0
   by_cases h3:e0=3
   .subst h3
    clear h0;go_enter func80,ntmps80
    go_wp2_with (first
     | (go_at_call 57;refine (aGt _ p _ g _ (HPV.out _ (aA0 HW)) (HGV.out _ (aA0 HW))).mono ?_;rintro e w' ⟨rfl,hb⟩;rw [hq];replace HW:=HW.trans hb;clear hb;(try clear p0 p1 p2 g0 g1 gsz);obtain ⟨p0,p1,p2,g0,g1,gsz⟩:=aA6 HW)
     | (go_at_call 87;refine (aCj _ p _ g _ (HPV.out _ (aA0 HW)) (HGV.out _ (aA0 HW)) HL.out HGL.out).mono ?_;rintro e w' ⟨rfl,hb⟩;rw [HNT.out];replace HW:=HW.trans hb;clear hb;(try clear p0 p1 p2 g0 g1 gsz);obtain ⟨p0,p1,p2,g0,g1,gsz⟩:=aA6 HW))
    go_ret;exact ⟨aA2 (by rw [HF.out];rfl),aA0 HW⟩
   .have d3:(e0==3)=false:=by simpa using h3
    have d3n:(e0 != 3)=true:=by simpa using h3
    have HR:Hid (aPh p g m=true):=by
     show _=_
     rw [HF.out];show (true&&((decide (e0≠0)&&decide (e0≠3))||(decide (e0=0)&&decide (n0<=m))))=true
     rw [decide_eq_true h0,decide_eq_true h3];rfl
    clear h0 h3 HF;go_enter func80,ntmps80
    go_wp2_with (first
     | (go_at_call 57;refine (aGt _ p _ g _ (HPV.out _ (aA0 HW)) (HGV.out _ (aA0 HW))).mono ?_;rintro e w' ⟨rfl,hb⟩;rw [hq];replace HW:=HW.trans hb;clear hb;(try clear p0 p1 p2 g0 g1 gsz);obtain ⟨p0,p1,p2,g0,g1,gsz⟩:=aA6 HW)
     | (go_at_call 87;refine (aCj _ p _ g _ (HPV.out _ (aA0 HW)) (HGV.out _ (aA0 HW)) HL.out HGL.out).mono ?_;rintro e w' ⟨rfl,hb⟩;rw [HNT.out];replace HW:=HW.trans hb;clear hb;(try clear p0 p1 p2 g0 g1 gsz);obtain ⟨p0,p1,p2,g0,g1,gsz⟩:=aA6 HW))
    go_ret;exact ⟨aA2 (by rw [HR.out]),aA0 HW⟩
def aMi (l:List (List Term)):Bool:=decide (l.length<=10)&&l.all fun e=>decide (e.length<=250)
def aSh (l:List (List Term)):Nat:=(l.map List.length).sum
def aIq (p:Prg) (g:Graph) (l:List (List Term)):Bool:=aFr p g&&aMi l&&decide (aSh l*g.ports.length*aF1 g*aF1 g<=20000)
def aMw (p:Prg) (g:Graph) (legit:List Bool) (l:List (List Term)):Bool:=aIq p g l&&aPh p g 120&&decide (g.ports.length<=4)&&decide (legit.length<=200)
theorem aNc {l:List (List Term)} (h:aMi l=true):l.length<=10/\∀ e∈l,e.length<=250:=by
 unfold aMi at h;simp only [Bool.and_eq_true,decide_eq_true_eq,List.all_eq_true] at h
 exact h
theorem aH9 {p:Prg} {g:Graph} {l:List (List Term)} (h:aIq p g l=true):aFr p g=true/\aAt p=true/\aB3 g=true/\l.length<=10/\∀ e∈l,e.length<=250:=by
 unfold aIq at h;simp only [Bool.and_eq_true] at h
 exact ⟨h.1.1,(aE8 h.1.1).1,(aE8 h.1.1).2,aNc h.1.2⟩
theorem aJw {p:Prg} {g:Graph} {legit:List Bool} {l:List (List Term)} (h:aMw p g legit l=true):aAt p=true/\aB3 g=true/\l.length<=10/\(∀ e∈l,e.length<=250)/\((aAs p g).2=0->aC7 p g<=200/\g.ports.length<=5)/\legit.length<=200:=by
 unfold aMw at h;simp only [Bool.and_eq_true,decide_eq_true_eq] at h
 obtain ⟨⟨⟨h1,h2⟩,h3⟩,h4⟩:=h;obtain ⟨_,a2,a3,a4,a5⟩:=aH9 h1;obtain ⟨_,_,b3,_⟩:=aYz h2;exact ⟨a2,a3,a4,a5,fun h=>⟨by have:=b3 h;omega,by omega⟩,h4⟩
theorem bEd {l:List (List Term)} {i:Nat} (h:i<l.length):aSh (l.take (i+1))=aSh (l.take i)+l[i].length:=by
 unfold aSh;rw [List.take_succ_eq_append_getElem h,List.map_append,List.sum_append];simp
theorem aW3:∀ {l:List (List Term)},(∀ e∈l,e.length<=250)->aSh l<=l.length*250
 | [],_=>by simp [aSh]
 | e :: l,h=>by
  have h1:=h e List.mem_cons_self;have h2:=aW3 (l:=l) fun x hx=>h x (List.mem_cons_of_mem _ hx);unfold aSh at *;simp only [List.map_cons,List.sum_cons,List.length_cons]
  omega
theorem aRe (A:Option Addr) (ca:Nat) (l:List (List Term)) (w:World) (hT:aAu w A l.length l) :
  Calls prog 97 #[.slice A l.length ca] w fun e w'=>e = .returned (.bool (aMi l))/\Bel w w':=by
 have HTR:=aA1 (fun w' (k:Bel w w')=>hT.keep k);have HF:Hid (aMi l=(decide (l.length<=10)&&l.all fun e=>decide (e.length<=250))):=rfl;clear hT
 by_cases h10:l.length<=10
 .rw [decide_eq_true h10] at HF
  have d10:decide (10<l.length)=false:=by simp;omega
  have d10I:decide ((10:Int)<(l.length:Int))=false:=by simp;omega
  go_enter func97,ntmps97
  go_wp2_with fail
  go_loopg [3] l.length (fun m z wr=>∃ i:Nat,i<=l.length/\m=l.length-i/\z = .int .i64 (i:Int)/\Hid (((l.drop i).all fun e=>decide (e.length<=250))=l.all fun e=>decide (e.length<=250))/\Bel w wr)
  case atStart=>exact ⟨0,by omega,rfl,rfl,rfl,Bel.refl w⟩
  case round =>
   clear d10 d10I;obtain ⟨i,hi,rfl,rfl,HQ,HW⟩:=hrel
   by_cases hlt:i<l.length
   .have hd0:decide (i<l.length)=true:=by simpa using hlt
    have hkI:(i:Int)<(l.length:Int):=by omega
    obtain ⟨b,o,R,rc,rfl,hb0,x1,hR,_,_⟩:=(HTR.out _ HW).at_ i hlt;rw [List.drop_eq_getElem_cons hlt,List.all_cons] at HQ;generalize l[i]=x at *
    by_cases hx:x.length<=250
    .rw [decide_eq_true hx,Bool.true_and] at HQ
     have dx:decide (x.length<=250)=true:=decide_eq_true hx;clear hx
     go_wp2_with (go_at_call 144;refine (aHt _ _ _ _).mono ?_;rintro e w' ⟨rfl,rfl⟩;rw [dx])
     go_roundg (l.length-(i+1))
     case rel=>exact ⟨i+1,by omega,rfl,by go_num,HQ,HW⟩
     case measure=>omega
    .rw [decide_eq_false hx,Bool.false_and] at HQ
     have dx:decide (x.length<=250)=false:=decide_eq_false hx;clear hx
     go_wp2_with (go_at_call 144;refine (aHt _ _ _ _).mono ?_;rintro e w' ⟨rfl,rfl⟩;rw [dx])
     go_ret;exact ⟨aA2 (by rw [HF.out,<- HQ.out];rfl),HW⟩
   .have hd0:decide (i<l.length)=false:=by simpa using hlt
    obtain rfl:i=l.length:=by omega
    rw [List.drop_length] at HQ
    go_wp2_with fail
    go_ret;exact ⟨aA2 (by rw [HF.out,<- HQ.out];rfl),HW⟩
 .rw [decide_eq_false h10] at HF
  have d10:decide (10<l.length)=true:=by simp;omega
  have d10I:decide ((10:Int)<(l.length:Int))=true:=by simp;omega
  go_enter func97,ntmps97
  go_wp2_with fail
  go_ret;exact ⟨aA2 (by rw [HF.out];rfl),Bel.refl w⟩
theorem aBi (v1:Value) (p:Prg) (v2:Value) (g:Graph) (A:Option Addr) (ca:Nat) (l:List (List Term)) (w:World) (h:aE0 w v1 p) (h2:aAl w v2 g) (hT:aAu w A l.length l) :
  Calls prog 49 #[v1,v2,.slice A l.length ca] w fun e w'=>e = .returned (.bool (aIq p g l))/\Bel w w':=by
 have HPV:=aA1 (fun w' (k:Bel w w')=>h.keep k);have HGV:=aA1 (fun w' (k:Bel w w')=>h2.keep k);have HTR:=aA1 (fun w' (k:Bel w w')=>hT.keep k);obtain ⟨A1,k1,A2,k2,rfl,_,_,_,_,_,_⟩:=h;obtain ⟨A3,k3,A4,k4,rfl,_,_,_,_,_,_⟩:=h2;have HF:Hid (aIq p g l=(aFr p g&&aMi l&&decide (aSh l*g.ports.length*aF1 g*aF1 g<=20000))):=rfl;have HW:=Bel.refl ((w.alloc (.cells #[.string p.name,.slice A1 p.vars.length k1,.slice A2 p.rules.length k2] 25)).alloc (.cells #[.slice A3 g.ids.length k3,.slice A4 g.ports.length k4] 29));clear hT;cases hq:aFr p g with
 | false =>
  rw [hq] at HF;go_enter func49,ntmps49
  go_wp2_with (go_at_call 57;refine (aGt _ p _ g _ (HPV.out _ (aA0 HW)) (HGV.out _ (aA0 HW))).mono ?_;rintro e w' ⟨rfl,hb⟩;rw [hq];replace HW:=HW.trans hb;clear hb;(try clear p0 p1 p2 g0 g1 gsz);obtain ⟨p0,p1,p2,g0,g1,gsz⟩:=aA6 HW)
  go_ret;exact ⟨aA2 (by rw [HF.out];rfl),aA0 HW⟩
 | true =>
  rw [hq] at HF;cases hc:aMi l with
  | false =>
   rw [hc] at HF;go_enter func49,ntmps49
   go_wp2_with (first
    | (go_at_call 57;refine (aGt _ p _ g _ (HPV.out _ (aA0 HW)) (HGV.out _ (aA0 HW))).mono ?_;rintro e w' ⟨rfl,hb⟩;rw [hq];replace HW:=HW.trans hb;clear hb;(try clear p0 p1 p2 g0 g1 gsz);obtain ⟨p0,p1,p2,g0,g1,gsz⟩:=aA6 HW)
    | (go_at_call 97;refine (aRe A ca l _ (HTR.out _ (aA0 HW))).mono ?_;rintro e w' ⟨rfl,hb⟩;rw [hc];replace HW:=HW.trans hb;clear hb;(try clear p0 p1 p2 g0 g1 gsz);obtain ⟨p0,p1,p2,g0,g1,gsz⟩:=aA6 HW))
   go_ret;exact ⟨aA2 (by rw [HF.out];rfl),aA0 HW⟩
  | true =>
   rw [hc] at HF;have HQ:=aA1 hq;have HC:=aA1 hc;obtain ⟨hl10,hl250⟩:=aNc hc;have HL250:=aA1 hl250;have HD:=aA1 (aQr (aE8 hq).2);have hN:=(aE2 (aE8 hq).2).2.1;clear hq hc hl250;go_enter func49,ntmps49
   go_wp2_with (first
    | (go_at_call 57;refine (aGt _ p _ g _ (HPV.out _ (aA0 HW)) (HGV.out _ (aA0 HW))).mono ?_;rintro e w' ⟨rfl,hb⟩;rw [HQ.out];replace HW:=HW.trans hb;clear hb;(try clear p0 p1 p2 g0 g1 gsz);obtain ⟨p0,p1,p2,g0,g1,gsz⟩:=aA6 HW)
    | (go_at_call 97;refine (aRe A ca l _ (HTR.out _ (aA0 HW))).mono ?_;rintro e w' ⟨rfl,hb⟩;rw [HC.out];replace HW:=HW.trans hb;clear hb;(try clear p0 p1 p2 g0 g1 gsz);obtain ⟨p0,p1,p2,g0,g1,gsz⟩:=aA6 HW))
   go_loopg [7,8] l.length (fun m s z wr=>∃ i:Nat,i<=l.length/\m=l.length-i/\s = .int .i64 (aSh (l.take i):Int)/\z = .int .i64 (i:Int)/\Bel ((w.alloc (.cells #[.string p.name,.slice A1 p.vars.length k1,.slice A2 p.rules.length k2] 25)).alloc (.cells #[.slice A3 g.ids.length k3,.slice A4 g.ports.length k4] 29)) wr)
   case atStart=>exact ⟨0,by omega,rfl,rfl,rfl,HW⟩
   case round =>
    clear HW p0 p1 p2 g0 g1 gsz;obtain ⟨i,hi,rfl,rfl,rfl,HW⟩:=hrel;obtain ⟨p0,p1,p2,g0,g1,gsz⟩:=aA6 HW
    by_cases hlt:i<l.length
    .have hd0:decide (i<l.length)=true:=by simpa using hlt
     have hkI:(i:Int)<(l.length:Int):=by omega
     obtain ⟨b,o,R,rc,rfl,hb0,x1,hR,_,_⟩:=(HTR.out _ (aA0 HW)).at_ i hlt;have HS:=aA1 (bEd hlt);have hs1:=aW3 (l:=l.take i) fun e he=>HL250.out e (List.mem_of_mem_take he);have hx:=HL250.out _ (List.getElem_mem hlt);rw [List.length_take] at hs1;generalize l[i]=x at *;obtain ⟨s,hs⟩:∃ s,aSh (l.take i)=s:=⟨_,rfl⟩;rw [hs] at HS hs1;rw [hs];clear hs hR
     go_wp2_with fail
     go_roundg (l.length-(i+1))
     case rel=>exact ⟨i+1,by omega,rfl,by rw [HS.out];go_num,by go_num,HW⟩
     case measure=>omega
    .have hd0:decide (i<l.length)=false:=by simpa using hlt
     obtain rfl:i=l.length:=by omega
     rw [List.take_length];have hs1:aSh l<=2500:=by have:=aW3 HL250.out;omega
     have w1:=aLr hs1 hN (by decide)
     have w2:=aLr (Nat.mul_le_mul hs1 hN) HD.out.2 (by decide)
     have w3:=aLr (Nat.mul_le_mul (Nat.mul_le_mul hs1 hN) HD.out.2) HD.out.2 (by decide)
     have W2:=aA1 w2;have W3:=aA1 w3;rw [<- Int.natCast_mul] at W2 W3;clear w2 w3
     go_wp2_with fail
     replace HW:=HW.drew
     go_region_held3 (fun w'=>w'.cell? ⟨w.heap.size,0,none⟩=some (.string p.name)/\w'.cell? ⟨w.heap.size,1,none⟩=some (.slice A1 p.vars.length k1)/\w'.cell? ⟨w.heap.size,2,none⟩=some (.slice A2 p.rules.length k2)/\w'.cell? ⟨w.heap.size+1,0,none⟩=some (.slice A3 g.ids.length k3)/\w'.cell? ⟨w.heap.size+1,1,none⟩=some (.slice A4 g.ports.length k4)/\w.heap.size+1<w'.heap.size) (exact aA6 HW) ((go_simp;go_at_call 59;refine (aQs _ g _ (HGV.out _ (aA0 HW))).mono ?_;rintro e w4 ⟨rfl,hb⟩;replace HW:=HW.trans hb;clear hb))
     go_wp2_with fail
     go_ret;refine ⟨aA2 ?_,aA0 HW⟩
     rw [HF.out,Bool.eq_iff_iff];simp only [decide_eq_true_eq,<- Int.natCast_mul,Bool.true_and]
     rw [W2.out,<- Int.natCast_mul,W3.out];omega
theorem aC4 (v1:Value) (p:Prg) (v2:Value) (g:Graph) (AL:Option Addr) (cL:Nat) (legit:List Bool) (A:Option Addr) (ca:Nat) (l:List (List Term)) (w:World) (h:aE0 w v1 p) (h2:aAl w v2 g) (hT:aAu w A l.length l) :
  Calls prog 36 #[v1,v2,.slice AL legit.length cL,.slice A l.length ca] w fun e w'=>e = .returned (.bool (aMw p g legit l))/\Bel w w':=by
 have HPV:=aA1 (fun w' (k:Bel w w')=>h.keep k);have HGV:=aA1 (fun w' (k:Bel w w')=>h2.keep k);have HTR:=aA1 (fun w' (k:Bel w w')=>hT.keep k);obtain ⟨A1,k1,A2,k2,rfl,_,_,_,_,_,_⟩:=h;obtain ⟨A3,k3,A4,k4,rfl,_,_,_,_,_,_⟩:=h2;have HF:Hid (aMw p g legit l=(aIq p g l&&aPh p g 120&&decide (g.ports.length<=4)&&decide (legit.length<=200))):=rfl;have HW:=Bel.refl ((w.alloc (.cells #[.string p.name,.slice A1 p.vars.length k1,.slice A2 p.rules.length k2] 25)).alloc (.cells #[.slice A3 g.ids.length k3,.slice A4 g.ports.length k4] 29));clear hT;cases hq:aIq p g l with
 | false =>
  rw [hq] at HF;go_enter func36,ntmps36
  go_wp2_with (go_at_call 49;refine (aBi _ p _ g A ca l _ (HPV.out _ (aA0 HW)) (HGV.out _ (aA0 HW)) (HTR.out _ (aA0 HW))).mono ?_;rintro e w' ⟨rfl,hb⟩;rw [hq];replace HW:=HW.trans hb;clear hb;(try clear p0 p1 p2 g0 g1 gsz);obtain ⟨p0,p1,p2,g0,g1,gsz⟩:=aA6 HW)
  go_ret;exact ⟨aA2 (by rw [HF.out];rfl),aA0 HW⟩
 | true =>
  rw [hq] at HF;cases hc:aPh p g 120 with
  | false =>
   rw [hc] at HF;go_enter func36,ntmps36
   go_wp2_with (first
    | (go_at_call 49;refine (aBi _ p _ g A ca l _ (HPV.out _ (aA0 HW)) (HGV.out _ (aA0 HW)) (HTR.out _ (aA0 HW))).mono ?_;rintro e w' ⟨rfl,hb⟩;rw [hq];replace HW:=HW.trans hb;clear hb;(try clear p0 p1 p2 g0 g1 gsz);obtain ⟨p0,p1,p2,g0,g1,gsz⟩:=aA6 HW)
    | (go_at_call 80;refine (aSd _ p _ g 120 _ (HPV.out _ (aA0 HW)) (HGV.out _ (aA0 HW))).mono ?_;rintro e w' ⟨rfl,hb⟩;rw [hc];replace HW:=HW.trans hb;clear hb;(try clear p0 p1 p2 g0 g1 gsz);obtain ⟨p0,p1,p2,g0,g1,gsz⟩:=aA6 HW))
   go_ret;exact ⟨aA2 (by rw [HF.out];rfl),aA0 HW⟩
  | true =>
   rw [hc] at HF
   by_cases h4:g.ports.length<=4
   .have d4:decide (g.ports.length<=4)=true:=decide_eq_true h4
    have d4I:decide ((g.ports.length:Int)<=4)=true:=decide_eq_true (by omega)
    rw [d4] at HF;go_enter func36,ntmps36
    go_wp2_with (first
     | (go_at_call 49;refine (aBi _ p _ g A ca l _ (HPV.out _ (aA0 HW)) (HGV.out _ (aA0 HW)) (HTR.out _ (aA0 HW))).mono ?_;rintro e w' ⟨rfl,hb⟩;rw [hq];replace HW:=HW.trans hb;clear hb;(try clear p0 p1 p2 g0 g1 gsz);obtain ⟨p0,p1,p2,g0,g1,gsz⟩:=aA6 HW)
     | (go_at_call 80;refine (aSd _ p _ g 120 _ (HPV.out _ (aA0 HW)) (HGV.out _ (aA0 HW))).mono ?_;rintro e w' ⟨rfl,hb⟩;rw [hc];replace HW:=HW.trans hb;clear hb;(try clear p0 p1 p2 g0 g1 gsz);obtain ⟨p0,p1,p2,g0,g1,gsz⟩:=aA6 HW))
    go_ret;exact ⟨aA2 (by rw [HF.out];simp only [Bool.true_and];rw [Bool.eq_iff_iff];simp <;> omega),aA0 HW⟩
   .have d4:decide (g.ports.length<=4)=false:=decide_eq_false h4
    have d4I:decide ((g.ports.length:Int)<=4)=false:=decide_eq_false (by omega)
    rw [d4] at HF;go_enter func36,ntmps36
    go_wp2_with (first
     | (go_at_call 49;refine (aBi _ p _ g A ca l _ (HPV.out _ (aA0 HW)) (HGV.out _ (aA0 HW)) (HTR.out _ (aA0 HW))).mono ?_;rintro e w' ⟨rfl,hb⟩;rw [hq];replace HW:=HW.trans hb;clear hb;(try clear p0 p1 p2 g0 g1 gsz);obtain ⟨p0,p1,p2,g0,g1,gsz⟩:=aA6 HW)
     | (go_at_call 80;refine (aSd _ p _ g 120 _ (HPV.out _ (aA0 HW)) (HGV.out _ (aA0 HW))).mono ?_;rintro e w' ⟨rfl,hb⟩;rw [hc];replace HW:=HW.trans hb;clear hb;(try clear p0 p1 p2 g0 g1 gsz);obtain ⟨p0,p1,p2,g0,g1,gsz⟩:=aA6 HW))
    go_ret;exact ⟨aA2 (by rw [HF.out];rfl),aA0 HW⟩
theorem bB4 {s:Spc} {k:Nat} (_:k<s.enabled.length):((List.range (k+1)).all fun k=>aFa (s.enabled.getD k 0) s.enabled.length (s.arcs.getD k []))=(((List.range k).all fun k=>aFa (s.enabled.getD k 0) s.enabled.length (s.arcs.getD k []))&&aFa (s.enabled.getD k 0) s.enabled.length (s.arcs.getD k [])):=by
 rw [List.range_succ,List.all_append];simp
theorem bBd {f:Nat->Bool} {n k:Nat} (hk:k<n) (h:f k=false):(List.range n).all f=false:=by
 rw [Bool.eq_false_iff];intro ha
 rw [List.all_eq_true] at ha;rw [ha k (List.mem_range.2 hk)] at h;cases h
def bCl (E:Nat) (n:Int) (l:List (Nat × Int)):Bool:=(decide (E≠0)==decide (0<l.length))&&aQg E n 0 l
theorem aNz (E:Nat) (n:Int) (l:List (Nat × Int)):aFa E n l=(decide (E<16777216)&&bCl E n l):=by unfold aFa bCl;rw [Bool.and_assoc]
theorem aRy (E:Nat) (A:Option Addr) (c:Nat) (l:List (Nat × Int)) (n:Nat) (w:World) (hA:aMc w A l.length l) (hx:∀ x∈l,x.1<4294967296) (hl:l.length<=70) (hn:n<=200) :
  Calls prog 189 #[.slice A l.length c,.int .u32 (E:Int),.int .i64 (n:Int)] w fun e w'=>e = .returned (.bool (bCl E n l))/\Bel w w':=by
 have HF:Hid (bCl E n l=((decide (E≠0)==decide (0<l.length))&&aQg E n 0 l)):=rfl;have HA:=aA1 (fun w' (k:Bel w w')=>hA.keep k);have HX:=aA1 hx;have HB:=Bel.refl w;clear hA hx
 by_cases hm:(decide (E≠0)==decide (0<l.length))=true
 .rw [hm] at HF
  obtain ⟨eb,e1,e2⟩:∃ eb:Bool,((E:Int) != 0)=eb/\decide (0<l.length)=eb:=by
   refine ⟨_,rfl,?_⟩
   have h1:decide (E≠0)=decide (0<l.length):=by simpa using hm
   have h2:((E:Int) != 0)=decide (E≠0):=by by_cases h:E=0 <;> simp [h]
   rw [h2,h1]
  have e3:(eb != eb)=false:=by cases eb <;> rfl
  clear hm;go_enter func189,ntmps189
  go_wp2_with fail
  go_loopg [7] l.length (fun m z wr=>∃ (i bf:Nat),i<=l.length/\m=l.length-i/\z = .int .i64 (i:Int)/\Hid (bf=if h:0<i/\i-1<l.length then l[i-1].1 else 0)/\Hid (aQg E n bf (l.drop i)=aQg E n 0 l)/\Bel w wr)
  case atStart=>exact ⟨0,0,by omega,rfl,rfl,rfl,by show _=_;simp,HB⟩
  case round =>
   clear HB e1 e2 e3;obtain ⟨i,bf,hi,rfl,rfl,HBF,HQ,HB⟩:=hrel
   by_cases hlt:i<l.length
   .have hd0:decide (i<l.length)=true:=by simpa using hlt
    obtain ⟨b,o,rfl,hbl,c0,c1⟩:=(HA.out _ HB).at_ i hlt;have hx1:=HX.out _ (List.getElem_mem hlt);rw [bIb hlt] at HQ;obtain ⟨S,hS⟩:∃ S,S=l[i].1:=⟨_,rfl⟩;obtain ⟨T,hT⟩:∃ T,T=l[i].2:=⟨_,rfl⟩;have HSd:=aA1 hS;rw [<- hS] at hx1 c0;rw [<- hT] at c1;simp only [<- hS,<- hT] at HQ
    clear hS hT;obtain ⟨iv,hiv⟩:∃ iv,inB T 0 ((n:Int)-1)=iv:=⟨_,rfl⟩;have HIV:=aA1 hiv
    have hIB:iv=(decide (0<=T)&&decide (T<n)):=by
     rw [<- hiv,Bool.eq_iff_iff,aIn];simp;omega
    have HIB:=aA1 hIB;clear hiv hIB
    by_cases a0:S=0
    .subst a0
     rw [decide_eq_false (Nat.not_lt_zero _)] at HQ
     go_wp2_with fail
     go_quiet (fail)
     go_wp2_with fail
     go_ret;exact ⟨aA2 (by rw [HF.out,<- HQ.out];rfl),HB.drewN _⟩
    .have z0:((S:Int)==0)=false:=by simp;omega
     have z0':(S==0)=false:=by simp;omega
     have HD:=aIx (T:=E) hx1;have hbn:=aHi S E;cases hw:aBh S E with
     | false =>
      rw [hw] at HQ HD;have hz:((aHo S E:Int) != 0)=true:=by simp at HD ⊢;omega
      have hz':(aHo S E != 0)=true:=by simp at HD ⊢;omega
      clear hw HD a0
      go_wp2_with fail
      go_quiet (fail)
      go_wp2_with fail
      go_ret;exact ⟨aA2 (by rw [HF.out,<- HQ.out];simp),HB.drewN _⟩
     | true =>
      rw [hw] at HQ HD;have hz:((aHo S E:Int) != 0)=false:=by simp at HD ⊢;omega
      have hz':(aHo S E != 0)=false:=by simp at HD ⊢;omega
      clear hw HD
      rcases Nat.eq_zero_or_pos i with h0 | h0
      .subst h0
       have hbf:bf=0:=by rw [HBF.out];simp
       subst hbf;rw [decide_eq_true (show 0<S by omega)] at HQ
       clear a0;simp only [Nat.zero_mul,Nat.add_zero] at c0 c1
       go_wp2_with fail
       go_quiet ((go_at_call 110;exact Calls.quiet_of_same ((aBs _ _ _ _).mono (fun _ _ hh=>⟨hh.1.trans (by rw [HIV.out]),hh.2.symm⟩))))
       cases iv with
       | true =>
        go_wp2_with fail
        go_roundg (l.length-(0+1))
        case rel=>exact ⟨1,S,by omega,rfl,by go_num,by show _=_;rw [dif_pos ⟨by omega,hlt⟩];exact HSd.out,by have:=HQ.out;have h2:=HIB.out;rw [eq_comm,Bool.and_eq_true] at h2;rw [h2.1,h2.2] at this;show _=_;simpa using this,HB.drewN _⟩
        case measure=>omega
       | false =>
        go_wp2_with fail
        go_ret;refine ⟨aA2 ?_,HB.drewN _⟩
        have h2:=HIB.out;rw [HF.out,<- HQ.out]
        revert h2
        cases decide (0<=T) <;> cases decide (T<(n:Int)) <;> simp
      .obtain ⟨k,rfl⟩:∃ k,i=k+1:=⟨i-1,by omega⟩
       have hk:k<l.length:=by omega
       have hbf:bf=l[k].1:=by rw [HBF.out,dif_pos ⟨by omega,by simpa using hk⟩];simp
       obtain ⟨b2,o2,hab,hbl2,p0,_⟩:=(HA.out _ HB).at_ k hk;obtain ⟨rfl,rfl⟩:b=b2/\o=o2:=by injection hab with hab;injection hab with h1 h2;exact ⟨h1,h2⟩
       have hx2:=HX.out _ (List.getElem_mem hk);rw [<- hbf] at p0 hx2;clear hbf hab
       by_cases a1:bf<S
       .have d1:decide (S<=bf)=false:=by simp;omega
        have d1I:decide ((S:Int)<=(bf:Int))=false:=by simp;omega
        rw [decide_eq_true a1] at HQ;have g0:decide ((0:Int)<((k+1:Nat):Int))=true:=decide_eq_true (by omega)
        clear a0 a1
        go_wp2_with fail
        go_quiet ((go_at_call 110;exact Calls.quiet_of_same ((aBs _ _ _ _).mono (fun _ _ hh=>⟨hh.1.trans (by rw [HIV.out]),hh.2.symm⟩))))
        cases iv with
        | true =>
         go_wp2_with fail
         go_roundg (l.length-(k+1+1))
         case rel=>exact ⟨k+1+1,S,by omega,rfl,by go_num,by show _=_;rw [dif_pos ⟨by omega,by simpa using hlt⟩];exact HSd.out,by have:=HQ.out;have h2:=HIB.out;rw [eq_comm,Bool.and_eq_true] at h2;rw [h2.1,h2.2] at this;show _=_;simpa using this,HB.drewN _⟩
         case measure=>omega
        | false =>
         go_wp2_with fail
         go_ret;refine ⟨aA2 ?_,HB.drewN _⟩
         have h2:=HIB.out;rw [HF.out,<- HQ.out]
         revert h2
         cases decide (0<=T) <;> cases decide (T<(n:Int)) <;> simp
       .have d1:decide (S<=bf)=true:=by simp;omega
        have d1I:decide ((S:Int)<=(bf:Int))=true:=by simp;omega
        rw [decide_eq_false a1] at HQ;have g0:decide ((0:Int)<((k+1:Nat):Int))=true:=decide_eq_true (by omega)
        clear a0 a1
        go_wp2_with fail
        go_quiet (fail)
        go_wp2_with fail
        go_ret;exact ⟨aA2 (by rw [HF.out,<- HQ.out];rfl),HB.drewN _⟩
   .have hd0:decide (i<l.length)=false:=by simpa using hlt
    obtain rfl:i=l.length:=by omega
    rw [bF3] at HQ
    go_wp2_with fail
    go_ret;exact ⟨aA2 (by rw [HF.out,<- HQ.out];rfl),HB⟩
 .have hm':(decide (E≠0)==decide (0<l.length))=false:=by simpa using hm
  rw [hm'] at HF
  obtain ⟨eb,e1,e2⟩:∃ eb:Bool,((E:Int) != 0)=eb/\decide (0<l.length) = !eb:=by
   refine ⟨_,rfl,?_⟩
   have h1:decide (E≠0)≠decide (0<l.length):=by simpa using hm
   have h2:((E:Int) != 0)=decide (E≠0):=by by_cases h:E=0 <;> simp [h]
   rw [h2]
   revert h1
   cases decide (E≠0) <;> cases decide (0<l.length) <;> simp
  have e3:(!eb != eb)=true:=by cases eb <;> rfl
  clear hm hm';go_enter func189,ntmps189
  go_wp2_with fail
  go_ret;exact ⟨aA2 (by rw [HF.out];rfl),HB⟩
theorem bJz {E:Nat} (hE:E<4294967296):aBh E (aPp 24 fun _=>true)=decide (E<16777216):=by
 rw [Bool.eq_iff_iff,aB5,decide_eq_true_iff];constructor
 .intro h
  rcases Nat.lt_or_ge E 16777216 with h1 | h1
  .exact h1
  .obtain ⟨i,hi,ht⟩:=Nat.exists_ge_and_testBit_of_ge_two_pow (show 2 ^ 24<=E from h1)
   have h32:i<32:=by
    rcases Nat.lt_or_ge i 32 with h2 | h2
    .exact h2
    .have:=Nat.testBit_lt_two_pow (i:=i) (show E<2 ^ i from Nat.lt_of_lt_of_le hE (Nat.pow_le_pow_right (n:=2) (by omega) h2))
     rw [this] at ht;cases ht
   have h3:=h i h32 ht;rw [aJv] at h3;simp at h3
   omega
 .intro h v hv ht
  rw [aJv];simp
  rcases Nat.lt_or_ge v 24 with h1 | h1
  .exact h1
  .have:=Nat.testBit_lt_two_pow (i:=v) (show E<2 ^ v from Nat.lt_of_lt_of_le h (Nat.pow_le_pow_right (n:=2) (by omega) h1))
   rw [this] at ht;cases ht
theorem aOs (v:Value) (s:Spc) (w:World) (h:aCo w v s) (hwf:wfS s) (hl:aM6 s=true) :
  Calls prog 143 #[v] w fun e w'=>e = .returned (.bool (aO2 s))/\Bel w w':=by
 obtain ⟨l1,l2,l3⟩:=aI7 hl;have HF:Hid (aO2 s=(decide (1<=s.enabled.length)&&decide (s.arcs.length=s.enabled.length)&&(List.range s.enabled.length).all fun k=>aFa (s.enabled.getD k 0) s.enabled.length (s.arcs.getD k []))):=rfl;obtain ⟨AE,cE,AA,cA,rfl,hE,hA,_,_,_,_⟩:=h;have HE:=aA1 (fun w' (k:Bel w w')=>hE.keep k);have HA:=aA1 (fun w' (k:Bel w w')=>hA.keep k);have HWF:=aA1 hwf;have HL3:=aA1 l3;have HW:=Bel.refl (w.alloc (.cells #[.slice AE s.enabled.length cE,.slice AA s.arcs.length cA] 70));clear hE hA hwf hl l3
 by_cases h1:1<=s.enabled.length
 .have HI1:Hid (inB (s.enabled.length:Int) 1 32768=true):=aIn.2 (by omega)
  rw [decide_eq_true h1] at HF
  by_cases h2:s.arcs.length=s.enabled.length
  .have d3:(((s.arcs.length:Nat):Int) != ((s.enabled.length:Nat):Int))=false:=by simp;omega
   have d3':(s.arcs.length != s.enabled.length)=false:=by simp;omega
   rw [decide_eq_true h2] at HF;have H2:=aA1 h2;clear h2;go_enter func143,ntmps143
   go_wp2_with (go_at_call 110;refine (aBs _ _ _ _).mono ?_;rintro e w' ⟨rfl,rfl⟩;rw [HI1.out])
   go_loopg [4,5] s.enabled.length (fun m t z wr=>∃ (k tt:Nat),k<=s.enabled.length/\m=s.enabled.length-k/\t = .int .i64 (tt:Int)/\tt<=70*k/\z = .int .i64 (k:Int)/\Hid (((List.range k).all fun k=>aFa (s.enabled.getD k 0) s.enabled.length (s.arcs.getD k []))=true)/\Bel (w.alloc (.cells #[.slice AE s.enabled.length cE,.slice AA s.arcs.length cA] 70)) wr)
   case atStart=>exact ⟨0,0,by omega,rfl,rfl,by omega,rfl,rfl,HW⟩
   case round =>
    clear HW d3 d3';obtain ⟨k,tt,hk,rfl,rfl,htt,rfl,HI,HW⟩:=hrel;have q0:=aA9 HW 0 (v := .slice AE s.enabled.length cE) rfl;have q1:=aA9 HW 1 (v := .slice AA s.arcs.length cA) rfl;have ql:=aAz HW
    by_cases hlt:k<s.enabled.length
    .have hd0:decide (k<s.enabled.length)=true:=by simpa using hlt
     have hltA:k<s.arcs.length:=by rw [H2.out];exact hlt
     obtain ⟨bE,oE,rfl,hbE,k0⟩:=(HE.out _ (Bel.refl w)).at_ k hlt;obtain ⟨bA,oA,R,rc,rfl,hbA,k1,hR,_,_⟩:=(HA.out _ (Bel.refl w)).at_ k hltA;have HR:=aA1 (fun w' (k:Bel w w')=>hR.keep k);have HST:Hid (aFa (s.enabled.getD k 0) s.enabled.length (s.arcs.getD k [])=aFa s.enabled[k] s.enabled.length s.arcs[k]):=by show _=_;rw [aA7 hlt,aA7 hltA]
     have hE32:=HWF.out.1 _ (List.getElem_mem hlt);have HX:=aA1 (HWF.out.2 _ (List.getElem_mem hltA));have hll:=HL3.out _ (List.getElem_mem hltA);have hkA:(k:Int)<(s.arcs.length:Int):=by omega
     have hkE:(k:Int)<(s.enabled.length:Int):=by omega
     clear hR;generalize s.arcs[k]=l at *;generalize s.enabled[k]=E at *;have hcell:=aA1 (fun w3 (kk:Bel (w.alloc (.cells #[.slice (some ⟨bE,oE,none⟩) s.enabled.length cE,.slice (some ⟨bA,oA,none⟩) s.arcs.length cA] 70)) w3)=>show w3.cell? ⟨w.heap.size,0,none⟩=some (.slice (some ⟨bE,oE,none⟩) s.enabled.length cE)/\w3.cell? ⟨w.heap.size,1,none⟩=some (.slice (some ⟨bA,oA,none⟩) s.arcs.length cA)/\w3.cell? ⟨bE,oE+k,none⟩=some (.int .u32 (E:Int))/\w3.cell? ⟨bA,oA+k,none⟩=some (.slice R l.length rc)/\w.heap.size<w3.heap.size/\bE<w3.heap.size/\bA<w3.heap.size from ⟨aA9 kk 0 rfl,aA9 kk 1 rfl,((aA3 kk).cell hbE).trans k0,((aA3 kk).cell hbA).trans k1,aAz kk,Nat.lt_of_lt_of_le hbE (aA3 kk).size,Nat.lt_of_lt_of_le hbA (aA3 kk).size⟩)
     obtain ⟨_,_,_,x1,_,_,xA⟩:=hcell.out _ HW;have d4:decide ((262144:Int)<(tt:Int)+(l.length:Int))=false:=decide_eq_false (by omega)
     have d4':decide (262144<tt+l.length)=false:=decide_eq_false (by omega)
     clear k0 k1;obtain ⟨M,hM⟩:∃ M,aPp 24 (fun _=>true)=M:=⟨_,rfl⟩;have HM:=aA1 hM;have hbn:=aHi E M;have HD:=aIx (T:=M) hE32;rw [<- hM,bJz hE32,hM] at HD;clear hM
     by_cases h24:E<16777216
     .rw [decide_eq_true h24] at HD
      have hz:((aHo E M:Int) != 0)=false:=by simp at HD ⊢;omega
      have hz':(aHo E M != 0)=false:=by simp at HD ⊢;omega
      have HSB:Hid (aFa E s.enabled.length l=bCl E s.enabled.length l):=by show _=_;rw [aNz,decide_eq_true h24];rfl
      clear HD h24;cases hs:bCl E s.enabled.length l with
      | true =>
       go_upto_region 9 with fail
       replace HW:=HW.drew
       go_region_held3 (fun w3=>w3.cell? ⟨w.heap.size,0,none⟩=some (.slice (some ⟨bE,oE,none⟩) s.enabled.length cE)/\w3.cell? ⟨w.heap.size,1,none⟩=some (.slice (some ⟨bA,oA,none⟩) s.arcs.length cA)/\w3.cell? ⟨bE,oE+k,none⟩=some (.int .u32 (E:Int))/\w3.cell? ⟨bA,oA+k,none⟩=some (.slice R l.length rc)/\w.heap.size<w3.heap.size/\bE<w3.heap.size/\bA<w3.heap.size) (exact hcell.out _ HW) (first | (go_simp;go_at_call 125;refine (aFh 24 _ (by omega)).mono ?_;rintro e w' ⟨rfl,rfl⟩;rw [HM.out]) | (go_simp;go_at_call 189;refine (aRy E R rc l s.enabled.length _ (HR.out _ (aA3 HW)) HX.out hll l1).mono ?_;rintro e w' ⟨rfl,hb⟩;rw [hs];replace HW:=HW.trans hb;clear hb))
       go_wp2_with fail
       go_roundg (s.enabled.length-(k+1))
       case rel =>
        refine ⟨k+1,tt+l.length,by omega,rfl,by go_num,by omega,by go_num,?_,HW⟩
        show _=_
        rw [bB4 hlt,HI.out,HST.out,HSB.out,hs];rfl
       case measure=>omega
      | false =>
       have HSF:=aA1 hs
       go_upto_region 9 with fail
       replace HW:=HW.drew
       go_region_held3 (fun w3=>w3.cell? ⟨w.heap.size,0,none⟩=some (.slice (some ⟨bE,oE,none⟩) s.enabled.length cE)/\w3.cell? ⟨w.heap.size,1,none⟩=some (.slice (some ⟨bA,oA,none⟩) s.arcs.length cA)/\w3.cell? ⟨bE,oE+k,none⟩=some (.int .u32 (E:Int))/\w3.cell? ⟨bA,oA+k,none⟩=some (.slice R l.length rc)/\w.heap.size<w3.heap.size/\bE<w3.heap.size/\bA<w3.heap.size) (exact hcell.out _ HW) (first | (go_simp;go_at_call 125;refine (aFh 24 _ (by omega)).mono ?_;rintro e w' ⟨rfl,rfl⟩;rw [HM.out]) | (go_simp;go_at_call 189;refine (aRy E R rc l s.enabled.length _ (HR.out _ (aA3 HW)) HX.out hll l1).mono ?_;rintro e w' ⟨rfl,hb⟩;rw [hs];replace HW:=HW.trans hb;clear hb))
       go_wp2_with fail
       go_ret;refine ⟨aA2 ?_,aA3 HW⟩
       rw [HF.out,bBd (f:=fun k=>aFa (s.enabled.getD k 0) s.enabled.length (s.arcs.getD k [])) hlt (by rw [HST.out,HSB.out];exact HSF.out)];rfl
     .rw [decide_eq_false h24] at HD
      have hz:((aHo E M:Int) != 0)=true:=by simp at HD ⊢;omega
      have hz':(aHo E M != 0)=true:=by simp at HD ⊢;omega
      have HSB:Hid (aFa E s.enabled.length l=false):=by show _=_;rw [aNz,decide_eq_false h24];rfl
      clear HD h24
      go_wp2_with fail
      go_quiet ((go_at_call 125;exact Calls.quiet_of_same ((aFh 24 _ (by omega)).mono (fun _ _ hh=>⟨hh.1.trans (by rw [HM.out]),hh.2.symm⟩))))
      go_wp2_with fail
      go_ret;refine ⟨aA2 ?_,aA3 (HW.drewN _)⟩
      rw [HF.out,bBd (f:=fun k=>aFa (s.enabled.getD k 0) s.enabled.length (s.arcs.getD k [])) hlt (by rw [HST.out,HSB.out])];rfl
    .have hd0:decide (k<s.enabled.length)=false:=by simpa using hlt
     obtain rfl:k=s.enabled.length:=by omega
     go_wp2_with fail
     go_ret;exact ⟨aA2 (by rw [HF.out,HI.out];rfl),aA3 HW⟩
  .have d3:(((s.arcs.length:Nat):Int) != ((s.enabled.length:Nat):Int))=true:=by simp;omega
   have d3':(s.arcs.length != s.enabled.length)=true:=by simp;omega
   rw [decide_eq_false h2] at HF;clear h2;go_enter func143,ntmps143
   go_wp2_with (go_at_call 110;refine (aBs _ _ _ _).mono ?_;rintro e w' ⟨rfl,rfl⟩;rw [HI1.out])
   go_ret;exact ⟨aA2 (by rw [HF.out];rfl),aA3 HW⟩
 .have HI1:Hid (inB (s.enabled.length:Int) 1 32768=false):=aHr (by omega)
  rw [decide_eq_false h1] at HF;clear h1;go_enter func143,ntmps143
  go_wp2_with (go_at_call 110;refine (aBs _ _ _ _).mono ?_;rintro e w' ⟨rfl,rfl⟩;rw [HI1.out])
  go_ret;exact ⟨aA2 (by rw [HF.out];rfl),aA3 HW⟩
open Go.ChangeShapes Go.WideShapes Go.ChangeAt Go.RowKit Go.Deep
section
variable {H:Type} {enc:TypeId × Value->H} {w:World} {base:Nat} {spare:Nat->Bool} {held:Bool}
end
theorem Tryz.cells_bool:prog.cellsOf 4=1:=by kernel_rfl
section
variable {H:Type} {enc:TypeId × Value->H} {w:World} {base:Nat} {spare:Nat->Bool} {held:Bool}
theorem aYb:aQ8 enc w base spare held 4 1 aKf:=by
 intro n cs y b o hat hl h
 obtain ⟨x,rfl,_⟩:=DataW.trod_bool underlying4 h;exact ⟨x,by simpa [aKf] using hat 0 (by omega),trivial⟩
theorem aMn {r:Reach} {b0:Nat} {v:Value} {d:DataW H} {p:List MemPlace} (h:DataW.Trod enc prog w base spare held 58 v d p) (hv:Value.okWide prog w r b0 58 v) :
  ∃ A c,∃ l:List Bool,v = .slice A l.length c/\aDa w A l.length l:=by
 obtain ⟨a,l,c',rfl⟩:=okWide_slice underlying58 hv;obtain ⟨fuel,h⟩:=h;obtain ⟨A,c,xs,hcs,hr,h1,h2⟩:=aDo underlying58 Tryz.cells_bool (by decide) aYb h
 exact ⟨A,c,xs,by simpa [Value.cells] using hcs,hr⟩
theorem aGa {r:Reach} {b0:Nat} {v:Value} {d:DataW H} {p:List MemPlace} (h:DataW.Trod enc prog w base spare held 59 v d p) (hv:Value.okWide prog w r b0 59 v) :
  ∃ A c,∃ l:List (List Term),v = .slice A l.length c/\aAu w A l.length l/\l.length<=c/\c<=maxLen:=by
 obtain ⟨a,l,c',rfl⟩:=okWide_slice underlying59 hv;obtain ⟨fuel,h⟩:=h;obtain ⟨A,c,xs,hcs,hr,h1,h2⟩:=aDo underlying59 Tryz.cells_terms (by decide) (aGb underlying64 Tryz.cells_term (by decide) aJq) h
 exact ⟨A,c,xs,by simpa [Value.cells] using hcs,hr,h1,h2⟩
end
end Go.Proofs.YtmifhmdghfbalaaGreatDoor

