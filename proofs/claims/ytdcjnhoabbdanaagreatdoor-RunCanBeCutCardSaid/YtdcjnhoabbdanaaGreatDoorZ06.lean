/- Merged. -/
import Derived.Test.YtdcjnhoabbdanaaGreatDoorZ04
import Derived.Test.YtdcjnhoabbdanaaGreatDoorZ03
set_option linter.unusedSimpArgs false
set_option linter.unnecessarySimpa false
set_option linter.unusedVariables false
set_option maxRecDepth 100000
set_option maxHeartbeats 1000000
open Go.Proofs.Tryz

namespace Go.Proofs.YtdcjnhoabbdanaaGreatDoor
open Go.RowKit
def aHy {α:Type} (size:Nat) (E:World->Nat->Nat->α->Prop) (w:World) (b o:Nat) (xs:List α):Prop :=
 ∃ A c,w.cell? ⟨b,o,none⟩=some (.slice A xs.length c)/\aAc size E w A xs.length xs/\xs.length<=c/\c<=maxLen
theorem aHy.keeps {α:Type} {size:Nat} {E:World->Nat->Nat->α->Prop} (hE:aL1 E):aL1 (aHy size E):=by
 intro w w' b o x k hb ⟨A,c,h1,h2,h3,h4⟩
 exact ⟨A,c,(k.cell hb).trans h1,h2.keep hE k,h3,h4⟩
def aLl (w:World) (b o:Nat) (l:Link):Prop:=w.cell? ⟨b,o,none⟩=some (.int .i64 l.to)/\w.cell? ⟨b,o+1,none⟩=some (.int .i64 l.weight)
theorem aLl.keeps:aL1 aLl:=fun _ _ _ _ _ k hb h=>⟨(k.cell hb).trans h.1,(k.cell hb).trans h.2⟩
def aFp:=aAc 2 aLl
def aEs:=aAc 1 (aHy 2 aLl)
def aP7:=aAc 1 (aHy 1 aGp)
theorem aFp.keep {w w':World} {A:Option Addr} {n:Nat} {xs:List Link} (h:aFp w A n xs) (k:Bel w w'):aFp w' A n xs:=aAc.keep aLl.keeps h k
theorem aEs.keep {w w':World} {A:Option Addr} {n:Nat} {xs:List (List Link)} (h:aEs w A n xs) (k:Bel w w'):aEs w' A n xs:=aAc.keep (aHy.keeps aLl.keeps) h k
theorem aP7.keep {w w':World} {A:Option Addr} {n:Nat} {xs:List (List Int)} (h:aP7 w A n xs) (k:Bel w w'):aP7 w' A n xs:=aAc.keep (aHy.keeps aGp.keeps) h k
theorem aFp.at_ {w:World} {A:Option Addr} {n:Nat} {xs:List Link} (h:aFp w A n xs) (k:Nat) (hk:k<xs.length) :
  ∃ b o,A=some ⟨b,o,none⟩/\b<w.heap.size/\w.cell? ⟨b,o+k*2,none⟩=some (.int .i64 xs[k].to)/\w.cell? ⟨b,o+k*2+1,none⟩=some (.int .i64 xs[k].weight):=aAc.at_ h k hk
theorem RowsAt.at_ {α:Type} {size:Nat} {E:World->Nat->Nat->α->Prop} {w:World} {A:Option Addr} {n:Nat} {xs:List (List α)} (h:aAc 1 (aHy size E) w A n xs) (k:Nat) (hk:k<xs.length) :
  ∃ b o R c,A=some ⟨b,o,none⟩/\b<w.heap.size/\w.cell? ⟨b,o+k,none⟩=some (.slice R xs[k].length c)/\aAc size E w R xs[k].length xs[k]/\xs[k].length<=c/\c<=maxLen:=by
 obtain ⟨b,o,e,hb,R,c,h1,h2,h3,h4⟩:=aAc.at_ h k hk;exact ⟨b,o,R,c,e,hb,by rw [Nat.mul_one] at h1;exact h1,h2,h3,h4⟩
theorem aEs.at_ {w:World} {A:Option Addr} {n:Nat} {xs:List (List Link)} (h:aEs w A n xs) (k:Nat) (hk:k<xs.length) :
  ∃ b o R c,A=some ⟨b,o,none⟩/\b<w.heap.size/\w.cell? ⟨b,o+k,none⟩=some (.slice R xs[k].length c)/\aFp w R xs[k].length xs[k]/\xs[k].length<=c/\c<=maxLen:=RowsAt.at_ h k hk
theorem aP7.at_ {w:World} {A:Option Addr} {n:Nat} {xs:List (List Int)} (h:aP7 w A n xs) (k:Nat) (hk:k<xs.length) :
  ∃ b o R c,A=some ⟨b,o,none⟩/\b<w.heap.size/\w.cell? ⟨b,o+k,none⟩=some (.slice R xs[k].length c)/\aBc w R xs[k].length xs[k]/\xs[k].length<=c/\c<=maxLen:=RowsAt.at_ h k hk
def aAm (w:World) (v:Value) (g:Graph):Prop :=
 ∃ A c A2 c2,v = .agg #[.slice A g.ids.length c,.slice A2 g.ports.length c2]/\aBc w A g.ids.length g.ids/\g.ids.length<=c/\c<=maxLen/\aEs w A2 g.ports.length g.ports/\g.ports.length<=c2/\c2<=maxLen
theorem aAm.keep {w w':World} {v:Value} {g:Graph} (h:aAm w v g) (k:Bel w w'):aAm w' v g:=by
 obtain ⟨A,c,A2,c2,e,h1,h2,h3,h4,h5,h6⟩:=h;exact ⟨A,c,A2,c2,e,h1.keep k,h2,h3,h4.keep k,h5,h6⟩
def aTf (w:World) (b o:Nat) (x:Var):Prop :=
 w.cell? ⟨b,o,none⟩=some (.string x.name)/\w.cell? ⟨b,o+1,none⟩=some (.int .i64 x.kind)/\w.cell? ⟨b,o+2,none⟩=some (.int .i64 x.lo)/\w.cell? ⟨b,o+3,none⟩=some (.int .i64 x.hi)/\w.cell? ⟨b,o+4,none⟩=some (.int .i64 x.perNode)/\w.cell? ⟨b,o+5,none⟩=some (.int .i64 x.perID)
theorem aTf.keeps:aL1 aTf:=fun _ _ _ _ _ k hb h=>⟨(k.cell hb).trans h.1,(k.cell hb).trans h.2.1,(k.cell hb).trans h.2.2.1,(k.cell hb).trans h.2.2.2.1,(k.cell hb).trans h.2.2.2.2.1,(k.cell hb).trans h.2.2.2.2.2⟩
def aHz:=aAc 6 aTf
theorem aHz.keep {w w':World} {A:Option Addr} {n:Nat} {xs:List Var} (h:aHz w A n xs) (k:Bel w w'):aHz w' A n xs:=aAc.keep aTf.keeps h k
theorem aHz.at_ {w:World} {A:Option Addr} {n:Nat} {xs:List Var} (h:aHz w A n xs) (k:Nat) (hk:k<xs.length) :
  ∃ b o,A=some ⟨b,o,none⟩/\b<w.heap.size/\aTf w b (o+k*6) xs[k]:=aAc.at_ h k hk
def aR5 (w:World) (b o:Nat) (x:SetT):Prop:=w.cell? ⟨b,o,none⟩=some (.int .i64 x.var)/\aHy 2 aI2 w b (o+1) x.value
theorem aR5.keeps:aL1 aR5:=fun _ _ _ _ _ k hb h=>⟨(k.cell hb).trans h.1,aHy.keeps aI2.keeps _ _ _ _ _ k hb h.2⟩
def aL2:=aAc 2 aR5
theorem aL2.keep {w w':World} {A:Option Addr} {n:Nat} {xs:List SetT} (h:aL2 w A n xs) (k:Bel w w'):aL2 w' A n xs:=aAc.keep aR5.keeps h k
theorem aL2.at_ {w:World} {A:Option Addr} {n:Nat} {xs:List SetT} (h:aL2 w A n xs) (k:Nat) (hk:k<xs.length) :
  ∃ b o R c,A=some ⟨b,o,none⟩/\b<w.heap.size/\w.cell? ⟨b,o+k*2,none⟩=some (.int .i64 xs[k].var)/\w.cell? ⟨b,o+k*2+1,none⟩=some (.slice R xs[k].value.length c)/\aAx w R xs[k].value.length xs[k].value/\xs[k].value.length<=c/\c<=maxLen:=by
 obtain ⟨b,o,e,hb,h1,R,c,h2,h3,h4,h5⟩:=aAc.at_ h k hk;exact ⟨b,o,R,c,e,hb,h1,h2,h3,h4,h5⟩
def aP8 (w:World) (b o:Nat) (x:Rule):Prop:=w.cell? ⟨b,o,none⟩=some (.string x.name)/\aHy 2 aI2 w b (o+1) x.guard/\aHy 2 aR5 w b (o+2) x.sets
theorem aP8.keeps:aL1 aP8:=fun _ _ _ _ _ k hb h=>⟨(k.cell hb).trans h.1,aHy.keeps aI2.keeps _ _ _ _ _ k hb h.2.1,aHy.keeps aR5.keeps _ _ _ _ _ k hb h.2.2⟩
def aGh:=aAc 3 aP8
theorem aGh.keep {w w':World} {A:Option Addr} {n:Nat} {xs:List Rule} (h:aGh w A n xs) (k:Bel w w'):aGh w' A n xs:=aAc.keep aP8.keeps h k
def aP9 (w:World) (v:Value) (r:Rule):Prop :=
 ∃ G c S c2,v = .agg #[.string r.name,.slice G r.guard.length c,.slice S r.sets.length c2]/\aAx w G r.guard.length r.guard/\r.guard.length<=c/\c<=maxLen/\aL2 w S r.sets.length r.sets/\r.sets.length<=c2/\c2<=maxLen
theorem aP9.keep {w w':World} {v:Value} {g:Rule} (h:aP9 w v g) (k:Bel w w'):aP9 w' v g:=by
 obtain ⟨A,c,A2,c2,e,h1,h2,h3,h4,h5,h6⟩:=h;exact ⟨A,c,A2,c2,e,h1.keep k,h2,h3,h4.keep k,h5,h6⟩
theorem aGh.at_ {w:World} {A:Option Addr} {n:Nat} {xs:List Rule} (h:aGh w A n xs) (k:Nat) (hk:k<xs.length) :
  ∃ b o G c S c2,A=some ⟨b,o,none⟩/\b<w.heap.size/\w.cell? ⟨b,o+k*3,none⟩=some (.string xs[k].name)/\w.cell? ⟨b,o+k*3+1,none⟩=some (.slice G xs[k].guard.length c)/\w.cell? ⟨b,o+k*3+2,none⟩=some (.slice S xs[k].sets.length c2)
   /\ aAx w G xs[k].guard.length xs[k].guard/\xs[k].guard.length<=c/\c<=maxLen/\aL2 w S xs[k].sets.length xs[k].sets/\xs[k].sets.length<=c2/\c2<=maxLen:=by
 obtain ⟨b,o,e,hb,h1,⟨G,c,h2,h3,h4,h5⟩,S,c2,h6,h7,h8,h9⟩:=aAc.at_ h k hk;exact ⟨b,o,G,c,S,c2,e,hb,h1,h2,h6,h3,h4,h5,h7,h8,h9⟩
def aEo (w:World) (v:Value) (p:Prg):Prop :=
 ∃ A c A2 c2,v = .agg #[.string p.name,.slice A p.vars.length c,.slice A2 p.rules.length c2]/\aHz w A p.vars.length p.vars/\p.vars.length<=c/\c<=maxLen/\aGh w A2 p.rules.length p.rules/\p.rules.length<=c2/\c2<=maxLen
theorem aEo.keep {w w':World} {v:Value} {p:Prg} (h:aEo w v p) (k:Bel w w'):aEo w' v p:=by
 obtain ⟨A,c,A2,c2,e,h1,h2,h3,h4,h5,h6⟩:=h;exact ⟨A,c,A2,c2,e,h1.keep k,h2,h3,h4.keep k,h5,h6⟩
def aAr (w:World) (v:Value) (c:aA5):Prop:=∃ A k,v = .slice A c.length k/\aP7 w A c.length c/\c.length<=k/\k<=maxLen
theorem aAr.keep {w w':World} {v:Value} {c:aA5} (h:aAr w v c) (k:Bel w w'):aAr w' v c:=by
 obtain ⟨A,n,e,h1,h2,h3⟩:=h;exact ⟨A,n,e,h1.keep k,h2,h3⟩
theorem aA9 {α:Type} {f:α->Bool} {l:List α} {k:Nat} (h:k<l.length) (ha:(l.take k).all f=true) (hk:f l[k]=true):(l.take (k+1)).all f=true:=by
 rw [List.take_succ_eq_append_getElem h,List.all_append,ha];simp [hk]
theorem aAh {α:Type} {f:α->Bool} {l:List α} {k:Nat} (h:k<l.length) (hk:f l[k]=false):l.all f=false:=by
 rw [List.all_eq_false];exact ⟨l[k],List.getElem_mem h,by simp [hk]⟩
theorem aAi {α:Type} {f:α->Bool} {l:List α} {k:Nat} (h:l.length<=k) (ha:(l.take k).all f=true):l.all f=true:=by rwa [List.take_of_length_le h] at ha
def aBr (c:aA5):Bool:=decide (c.length<=30)&&c.all fun r=>decide (r.length<=10)
theorem aEy (v:Value) (c:aA5) (w:World) (h:aAr w v c) :
  Calls prog 31 #[v] w fun e w'=>e = .returned (.bool (aBr c))/\w=w':=by
 obtain ⟨A,k,rfl,hr,_,_⟩:=h;have H:=aA0 hr;clear hr
 by_cases hl:c.length<=30
 .go_enter func31,ntmps31
  go_wp2
  go_loopg [3] c.length (fun g i wr=>∃ j:Nat,j<=c.length/\g=c.length-j/\Hid ((c.take j).all (fun r=>decide (r.length<=10))=true)/\i = .int .i64 j/\w=wr)
  case atStart=>exact ⟨0,by omega,rfl,rfl,rfl,rfl⟩
  case round =>
   obtain ⟨j,hj,rfl,HK,rfl,rfl⟩:=hrel
   by_cases hlt:j<c.length
   .obtain ⟨b,o,R,c1,rfl,hb,hc1,_,_,_⟩:=H.out.at_ j hlt
    go_wp2
    .go_ret
     exact ⟨aA2 (by unfold aBr;rw [aAh hlt (by simp;omega)];simp),rfl⟩
    .go_roundg (c.length-(j+1))
     case rel=>exact ⟨j+1,by omega,rfl,aA9 hlt HK.out (by simp;omega),by go_num,rfl⟩
     case measure=>omega
   .go_wp2
    go_ret;exact ⟨aA2 (by unfold aBr;rw [aAi (by omega) HK.out];simp [hl]),rfl⟩
 .go_enter func31,ntmps31
  go_wp2;go_ret;exact ⟨aA2 (by unfold aBr;simp [hl]),rfl⟩
def aB2 (g:Graph):Bool:=decide (g.ids.length<=30)&&decide (g.ports.length<=30)&&g.ports.all fun r=>decide (r.length<=30)
theorem aI8 (v:Value) (g:Graph) (w:World) (h:aAm w v g) :
  Calls prog 57 #[v] w fun e w'=>e = .returned (.bool (aB2 g))/\Bel w w':=by
 obtain ⟨A,k,A2,k2,rfl,_,_,_,hr,_,_⟩:=h;have H:=aA0 hr;clear hr
 by_cases hl:g.ids.length<=30/\g.ports.length<=30
 .obtain ⟨hl1,hl2⟩:=hl
  go_enter func57,ntmps57;go_wp2
  go_loopg [3] g.ports.length (fun m i wr=>∃ j:Nat,j<=g.ports.length/\m=g.ports.length-j/\Hid ((g.ports.take j).all (fun r=>decide (r.length<=30))=true)/\i = .int .i64 j/\w.alloc (.cells #[.slice A g.ids.length k,.slice A2 g.ports.length k2] 29)=wr)
  case atStart=>exact ⟨0,by omega,rfl,rfl,rfl,rfl⟩
  case round =>
   obtain ⟨j,hj,rfl,HK,rfl,rfl⟩:=hrel
   by_cases hlt:j<g.ports.length
   .obtain ⟨b,o,R,c1,rfl,hb,hc1,_,_,_⟩:=H.out.at_ j hlt
    go_wp2
    .go_ret
     exact ⟨aA2 (by unfold aB2;rw [aAh hlt (by simp;omega)];simp),(Bel.refl _).alloc _⟩
    .go_roundg (g.ports.length-(j+1))
     case rel=>exact ⟨j+1,by omega,rfl,aA9 hlt HK.out (by simp;omega),by go_num,rfl⟩
     case measure=>omega
   .go_wp2
    go_ret;exact ⟨aA2 (by unfold aB2;rw [aAi (by omega) HK.out];simp [hl1,hl2]),(Bel.refl _).alloc _⟩
 .have hf:Hid (aB2 g=false):=by
   show aB2 g=false
   unfold aB2;rw [Bool.eq_false_iff];intro h;simp at h;omega
  by_cases h1:30<g.ids.length
  .go_enter func57,ntmps57
   go_wp2;go_ret;exact ⟨aA2 hf.out.symm,(Bel.refl _).alloc _⟩
  .have h2:30<g.ports.length:=by omega
   clear hl;go_enter func57,ntmps57;go_wp2;go_ret;exact ⟨aA2 hf.out.symm,(Bel.refl _).alloc _⟩
def aDa (g:Graph):Nat:=(g.ports.map List.length).foldl max 1
theorem aOi (l:List Nat) (a b:Nat) (ha:a<=b) (h:∀ x∈l,x<=b):l.foldl max a<=b:=by
 induction l generalizing a with
 | nil=>exact ha
 | cons x l ih=>exact ih _ (Nat.max_le.2 ⟨ha,h x (by simp)⟩) (fun y hy=>h y (by simp [hy]))
theorem aOh (l:List Nat) (a:Nat):a<=l.foldl max a:=by
 induction l generalizing a with
 | nil=>exact Nat.le_refl _
 | cons x l ih=>exact Nat.le_trans (Nat.le_max_left a x) (ih _)
theorem aXz (a b:Nat):∃ m:Nat,(if a<b then (b:Int) else (a:Int))=(m:Int)/\m=max a b:=⟨max a b,by split <;> omega,rfl⟩
theorem aLu (v:Value) (g:Graph) (w:World) (h:aAm w v g) :
  Calls prog 33 #[v] w fun e w'=>e = .returned (.int .i64 (aDa g:Nat))/\Bel w w':=by
 obtain ⟨A,k,A2,k2,rfl,_,_,_,hr,_,hm⟩:=h;have hmx:g.ports.length<=9223372036854775807:=by unfold maxLen at hm;omega
 have H:=aA0 hr;clear hr;go_enter func33,ntmps33;go_wp2
 go_loopg [3,4] g.ports.length (fun m d i wr=>∃ j:Nat,j<=g.ports.length/\m=g.ports.length-j/\d = .int .i64 ((((g.ports.take j).map List.length).foldl max 1:Nat):Int)/\i = .int .i64 j/\w.alloc (.cells #[.slice A g.ids.length k,.slice A2 g.ports.length k2] 29)=wr)
 case atStart=>exact ⟨0,by omega,rfl,rfl,rfl,rfl⟩
 case round =>
  obtain ⟨j,hj,rfl,rfl,rfl,rfl⟩:=hrel
  by_cases hlt:j<g.ports.length
  .obtain ⟨b,o,R,c1,rfl,hb,hc1,_,_,_⟩:=H.out.at_ j hlt
   have hs:((g.ports.take (j+1)).map List.length).foldl max 1=max (((g.ports.take j).map List.length).foldl max 1) g.ports[j].length:=by
    rw [List.take_succ_eq_append_getElem hlt,List.map_append,List.foldl_append];rfl
   have HS:=aA0 hs;clear hs;generalize ((g.ports.take j).map List.length).foldl max 1=D at *;obtain ⟨m,hm1,hm2⟩:=aXz D g.ports[j].length;have HM:=aA0 hm2;clear hm2;go_wp2
   go_roundg (g.ports.length-(j+1))
   case rel=>exact ⟨j+1,by omega,rfl,by rw [HS.out,<- HM.out],by go_num,rfl⟩
   case measure=>omega
  .go_wp2
   go_ret;exact ⟨aA4 (by unfold aDa;rw [List.take_of_length_le (by omega)]),(Bel.refl _).alloc _⟩
theorem aA7 {w wr:World} {cs:Array Value} {t:TypeId} (h:Bel (w.alloc (.cells cs t)) wr) (i:Nat) {v:Value} (hv:cs[i]?=some v):wr.cell? ⟨w.heap.size,i,none⟩=some v :=
 (h.cell (by simp)).trans ((Blk.new w cs t).cell i hv)
theorem aAu {w wr:World} {cs:Array Value} {t:TypeId} (h:Bel (w.alloc (.cells cs t)) wr):w.heap.size<wr.heap.size:=by
 have:=h.size;simp at this;omega
theorem aA3 {w wr:World} {o:Obj} (h:Bel (w.alloc o) wr):Bel w wr:=((Bel.refl w).alloc o).trans h
theorem box2 {w wr:World} {cs ds:Array Value} {t u:TypeId} (h:Bel ((w.alloc (.cells cs t)).alloc (.cells ds u)) wr) :
  (∀ i v,cs[i]?=some v->wr.cell? ⟨w.heap.size,i,none⟩=some v)/\(∀ i v,ds[i]?=some v->wr.cell? ⟨w.heap.size+1,i,none⟩=some v)/\w.heap.size+1<wr.heap.size:=by
 refine ⟨fun i v hv=>?_,fun i v hv=>?_,?_⟩
 .exact (h.cell (by simp;omega)).trans (((Blk.new w cs t).alloc _).cell i hv)
 .have:=aA7 h i hv
  simpa using this
 .have:=aAu h
  simpa using this
theorem aAf {w wr:World} {a b c d e:Value} {t u:TypeId} (h:Bel ((w.alloc (.cells #[a,b,c] t)).alloc (.cells #[d,e] u)) wr) :
  wr.cell? ⟨w.heap.size,0,none⟩=some a/\wr.cell? ⟨w.heap.size,1,none⟩=some b/\wr.cell? ⟨w.heap.size,2,none⟩=some c/\wr.cell? ⟨w.heap.size+1,0,none⟩=some d/\wr.cell? ⟨w.heap.size+1,1,none⟩=some e/\w.heap.size+1<wr.heap.size:=by
 obtain ⟨h1,h2,h3⟩:=box2 h;exact ⟨h1 0 _ rfl,h1 1 _ rfl,h1 2 _ rfl,h2 0 _ rfl,h2 1 _ rfl,h3⟩
theorem aA1 {w wr:World} {o o2:Obj} (h:Bel ((w.alloc o).alloc o2) wr):Bel w wr:=aA3 (aA3 h)
def aEi (r:Rule):Bool:=decide (r.name.size<=40)&&decide (r.sets.length<=10)&&decide (r.guard.length<=250)&&r.sets.all fun s=>decide (s.value.length<=250)
def aAq (p:Prg):Bool:=decide (p.name.size<=40)&&decide (p.vars.length<=10)&&decide (p.rules.length<=16)&&p.vars.all (fun x=>decide (x.name.size<=40))&&p.rules.all aEi
theorem aEf (v:Value) (p:Prg) (w:World) (h:aEo w v p) :
  Calls prog 56 #[v] w fun e w'=>e = .returned (.bool (aAq p))/\Bel w w':=by
 obtain ⟨A,k,A2,k2,rfl,hv,_,_,hr,_,_⟩:=h;have HV:=aA0 hv;clear hv;have HR:=aA0 (fun w' (k:Bel w w')=>hr.keep k);clear hr
 by_cases hl:p.name.size<=40/\p.vars.length<=10/\p.rules.length<=16
 .obtain ⟨hl1,hl2,hl3⟩:=hl
  go_enter func56,ntmps56;go_wp2
  go_loopg [3] p.vars.length (fun m i wr=>∃ j:Nat,j<=p.vars.length/\m=p.vars.length-j/\Hid ((p.vars.take j).all (fun x=>decide (x.name.size<=40))=true)/\i = .int .i64 j/\w.alloc (.cells #[.string p.name,.slice A p.vars.length k,.slice A2 p.rules.length k2] 25)=wr)
  case atStart=>exact ⟨0,by omega,rfl,rfl,rfl,rfl⟩
  case round =>
   obtain ⟨j,hj,rfl,HK,rfl,rfl⟩:=hrel
   by_cases hlt:j<p.vars.length
   .obtain ⟨b,o,rfl,hb,hc1,_⟩:=HV.out.at_ j hlt
    go_wp2
    .go_ret
     exact ⟨aA2 (by unfold aAq;rw [aAh hlt (by simp;omega)];simp),(Bel.refl _).alloc _⟩
    .go_roundg (p.vars.length-(j+1))
     case rel=>exact ⟨j+1,by omega,rfl,aA9 hlt HK.out (by simp;omega),by go_num,rfl⟩
     case measure=>omega
   .have HVA:=aA0 (aAi (by omega) HK.out);clear HK HV
    go_wp2
    go_loopg [4] p.rules.length (fun m i wr=>∃ j:Nat,j<=p.rules.length/\m=p.rules.length-j/\Hid ((p.rules.take j).all aEi=true)/\i = .int .i64 j/\Bel (w.alloc (.cells #[.string p.name,.slice A p.vars.length k,.slice A2 p.rules.length k2] 25)) wr)
    case atStart=>exact ⟨0,by omega,rfl,rfl,rfl,Bel.refl _⟩
    case round =>
     obtain ⟨i,hi,rfl,HK,rfl,HB⟩:=hrel;have b1:=aA7 HB 2 rfl;have b0:=aAu HB
     by_cases hlt:i<p.rules.length
     .obtain ⟨b,o,G,c,S,c2,rfl,hb,hc1,hc2,hc3,_,_,_,hS,_,_⟩:=(HR.out _ (aA3 HB)).at_ i hlt
      have HS:=aA0 hS;clear hS;have HB2:=HB.alloc (.cells #[.string p.rules[i].name,.slice G p.rules[i].guard.length c,.slice S p.rules[i].sets.length c2] 93)
      by_cases hl:p.rules[i].name.size<=40/\p.rules[i].sets.length<=10/\p.rules[i].guard.length<=250
      .obtain ⟨hq1,hq2,hq3⟩:=hl
       have hd3:decide (p.rules[i].guard.length<=250)=true:=by simpa using hq3
       go_wp2_with (go_at_call 80;refine (aH4 _ _ _ _).mono ?_;rintro e w' ⟨rfl,rfl⟩)
       go_loopg [6] p.rules[i].sets.length (fun m x ws=>∃ j:Nat,j<=p.rules[i].sets.length/\m=p.rules[i].sets.length-j/\Hid ((p.rules[i].sets.take j).all (fun s=>decide (s.value.length<=250))=true)/\x = .int .i64 j/\wr.alloc (.cells #[.string p.rules[i].name,.slice G p.rules[i].guard.length c,.slice S p.rules[i].sets.length c2] 93)=ws)
       case atStart=>exact ⟨0,by omega,rfl,rfl,rfl,rfl⟩
       case round =>
        obtain ⟨q,hq,rfl,HQ,rfl,rfl⟩:=hrel
        by_cases hlt2:q<p.rules[i].sets.length
        .obtain ⟨b',o',R,c',rfl,hb',hs1,hs2,_,_,_⟩:=HS.out.at_ q hlt2
         by_cases hle:p.rules[i].sets[q].value.length<=250
         .have hd4:decide (p.rules[i].sets[q].value.length<=250)=true:=by simpa using hle
          go_wp2_with (go_at_call 80;refine (aH4 _ _ _ _).mono ?_;rintro e w' ⟨rfl,rfl⟩)
          go_roundg (p.rules[i].sets.length-(q+1))
          case rel=>exact ⟨q+1,by omega,rfl,aA9 hlt2 HQ.out (by simp;omega),by go_num,rfl⟩
          case measure=>omega
         .have hd4:decide (p.rules[i].sets[q].value.length<=250)=false:=by simpa using hle
          go_wp2_with (go_at_call 80;refine (aH4 _ _ _ _).mono ?_;rintro e w' ⟨rfl,rfl⟩)
          go_ret;exact ⟨aA2 (by unfold aAq;rw [aAh hlt (by unfold aEi;rw [aAh hlt2 hd4];simp)];simp),aA3 HB2⟩
        .go_wp2
         go_roundg (p.rules.length-(i+1))
         case rel=>exact ⟨i+1,by omega,rfl,aA9 hlt HK.out (by unfold aEi;rw [aAi (by omega) HQ.out];simp [hq1,hq2,hq3]),by go_num,HB2⟩
         case measure=>omega
      .have hf:Hid (aAq p=false):=by
        show aAq p=false
        unfold aAq;rw [aAh hlt (by unfold aEi;rw [Bool.eq_false_iff];intro h;simp at h;omega)];simp
       by_cases hq:250<p.rules[i].guard.length
       .have hd3:decide (p.rules[i].guard.length<=250)=false:=by simpa using hq
        go_wp2_with (go_at_call 80;refine (aH4 _ _ _ _).mono ?_;rintro e w' ⟨rfl,rfl⟩)
        all_goals (go_ret;exact ⟨aA2 hf.out.symm,aA3 HB2⟩)
       .have hd3:decide (p.rules[i].guard.length<=250)=true:=by simpa using hq
        go_wp2_with (go_at_call 80;refine (aH4 _ _ _ _).mono ?_;rintro e w' ⟨rfl,rfl⟩)
        all_goals first
         | (go_ret;exact ⟨aA2 hf.out.symm,aA3 HB2⟩)
         | omega
     .go_wp2
      go_ret;exact ⟨aA2 (by unfold aAq;rw [HVA.out,aAi (by omega) HK.out];simp [hl1,hl2,hl3]),aA3 HB⟩
 .have hf:Hid (aAq p=false):=by
   show aAq p=false
   unfold aAq;rw [Bool.eq_false_iff];intro h;simp at h;omega
  go_enter func56,ntmps56;go_wp2
  all_goals first
   | (go_ret;exact ⟨aA2 hf.out.symm,(Bel.refl _).alloc _⟩)
   | omega
def inB (v lo hi:Int):Bool:=decide (lo<=v/\v<=hi)
theorem aDb {v lo hi:Int} (h1:lo<=v) (h2:v<=hi):inB v lo hi=true:=by unfold inB;simp [h1,h2]
theorem aJ0 {v lo hi:Int} (h:v<lo∨hi<v):inB v lo hi=false:=by unfold inB;simp;omega
theorem aM3 {v lo hi:Int}:inB v lo hi=true↔lo<=v/\v<=hi:=by unfold inB;simp
theorem aCs (v lo hi:Int) (w:World):Calls prog 92 #[.int .i64 v,.int .i64 lo,.int .i64 hi] w fun e w'=>e = .returned (.bool (inB v lo hi))/\w=w':=by
 go_enter func92,ntmps92;go_wp2
 all_goals (go_ret;refine ⟨aA2 ?_,rfl⟩;unfold inB;rw [Bool.eq_iff_iff];simp) <;> omega
theorem aDn (v lo hi:Int) (w:World):Calls prog 145 #[.int .i64 v,.int .i64 lo,.int .i64 hi] w fun e w'=>e = .returned (.bool (inB v lo hi))/\w=w':=by
 go_enter func145,ntmps145;go_wp2
 all_goals (go_ret;refine ⟨aA2 ?_,rfl⟩;unfold inB;rw [Bool.eq_iff_iff];simp) <;> omega
theorem aFz (v lo hi:Int) (w:World):Calls prog 160 #[.int .i64 v,.int .i64 lo,.int .i64 hi] w fun e w'=>e = .returned (.bool (inB v lo hi))/\w=w':=by
 go_enter func160,ntmps160;go_wp2
 all_goals (go_ret;refine ⟨aA2 ?_,rfl⟩;unfold inB;rw [Bool.eq_iff_iff];simp) <;> omega
theorem aUg (v:Value) (g:Graph) (i:Nat) (u:Int) (w:World) (h:aAm w v g) (hi:i<g.ports.length) :
  Calls prog 98 #[v,.int .i64 i,.int .i64 u] w fun e w'=>e = .returned (.int .i64 (aDl g.ports[i] u))/\Bel w w':=by
 obtain ⟨A,k,A2,k2,rfl,_,_,_,hr,_,hm⟩:=h;obtain ⟨b,o,R,c1,rfl,hb,hc1,hL,hn,hm2⟩:=hr.at_ i hi;have H:=aA0 hL;clear hL hr;unfold maxLen at hm hm2;go_enter func98,ntmps98;go_wp2
 go_loopg [7] g.ports[i].length (fun m x wr=>∃ j:Nat,j<=g.ports[i].length/\m=g.ports[i].length-j/\Hid ((g.ports[i].take j).all (fun l => !(l.to==u))=true)/\x = .int .i64 j/\w.alloc (.cells #[.slice A g.ids.length k,.slice (some ⟨b,o,none⟩) g.ports.length k2] 29)=wr)
 case atStart=>exact ⟨0,by omega,rfl,rfl,rfl,rfl⟩
 case round =>
  obtain ⟨j,hj,rfl,HK,rfl,rfl⟩:=hrel
  by_cases hlt:j<g.ports[i].length
  .obtain ⟨b',o',rfl,hb',hl1,hl2⟩:=H.out.at_ j hlt
   by_cases he:(g.ports[i][j].to==u)=true
   .go_wp2
    go_ret;exact ⟨aA4 (aMk hlt HK.out he).symm,(Bel.refl _).alloc _⟩
   .have he':(g.ports[i][j].to==u)=false:=by simpa using he
    clear he;go_wp2
    go_roundg (g.ports[i].length-(j+1))
    case rel=>exact ⟨j+1,by omega,rfl,aA9 hlt HK.out (by simp [he']),by go_num,rfl⟩
    case measure=>omega
  .go_wp2
   go_ret;exact ⟨aA4 (aNr (aAi (by omega) HK.out)).symm,(Bel.refl _).alloc _⟩
theorem aUi (v:Value) (g:Graph) (i:Nat) (u:Int) (w:World) (h:aAm w v g) (hi:i<g.ports.length) :
  Calls prog 105 #[v,.int .i64 i,.int .i64 u] w fun e w'=>e = .returned (.int .i64 (aDl g.ports[i] u))/\Bel w w':=by
 obtain ⟨A,k,A2,k2,rfl,_,_,_,hr,_,hm⟩:=h;obtain ⟨b,o,R,c1,rfl,hb,hc1,hL,hn,hm2⟩:=hr.at_ i hi;have H:=aA0 (fun w' (k:Bel w w')=>aFp.keep hL k);clear hL hr;unfold maxLen at hm hm2;go_enter func105,ntmps105;go_wp2
 go_loopg [7,8,15] g.ports[i].length (fun m _x _y z wr=>∃ j:Nat,j<=g.ports[i].length/\m=g.ports[i].length-j/\Hid ((g.ports[i].take j).all (fun l => !(l.to==u))=true)/\z = .int .i64 j/\Bel w wr)
 case atStart=>exact ⟨0,by omega,rfl,rfl,rfl,(Bel.refl w).alloc _⟩
 case round =>
  obtain ⟨j,hj,rfl,HK,rfl,HB⟩:=hrel
  by_cases hlt:j<g.ports[i].length
  .obtain ⟨b',o',rfl,hb',hl1,hl2⟩:=(H.out _ HB).at_ j hlt
   have HB2:=HB.alloc (.cells #[.int .i64 g.ports[i][j].to,.int .i64 g.ports[i][j].weight] 102)
   by_cases he:(g.ports[i][j].to==u)=true
   .go_wp2
    go_ret;exact ⟨aA4 (aMk hlt HK.out he).symm,HB2⟩
   .have he':(g.ports[i][j].to==u)=false:=by simpa using he
    clear he;go_wp2
    go_roundg (g.ports[i].length-(j+1))
    case rel=>exact ⟨j+1,by omega,rfl,aA9 hlt HK.out (by simp [he']),by go_num,HB2⟩
    case measure=>omega
  .go_wp2
   go_ret;exact ⟨aA4 (aNr (aAi (by omega) HK.out)).symm,HB⟩
theorem aMc {l m:List Int} {k:Nat} (h1:l.length<=k) (h2:m.length<=k) (h:l.take k=m.take k):l=m:=by rwa [List.take_of_length_le h1,List.take_of_length_le h2] at h
theorem aKv (A:Option Addr) (c:Nat) (l:List Int) (A2:Option Addr) (c2:Nat) (m:List Int) (w:World) (h1:aBc w A l.length l) (h2:aBc w A2 m.length m) (hl:l.length<=1000000) :
  Calls prog 47 #[.slice A l.length c,.slice A2 m.length c2] w fun e w'=>e = .returned (.bool (decide (l=m)))/\Bel w w':=by
 have H1:=aA0 (fun w' (k:Bel w w')=>aBc.keep h1 k);clear h1;have H2:=aA0 (fun w' (k:Bel w w')=>aBc.keep h2 k);clear h2
 by_cases hn:l.length=m.length
 .have HN:=aA0 hn
  rw [<- hn];clear hn;have hb:(l.length != l.length)=false:=by simp
  go_enter func47,ntmps47;go_wp2
  go_loopg [5] l.length (fun q x wr=>∃ j:Nat,j<=l.length/\q=l.length-j/\Hid (l.take j=m.take j)/\x = .int .i64 j/\Bel w wr)
  case atStart=>exact ⟨0,by omega,rfl,rfl,rfl,Bel.refl w⟩
  case round =>
   obtain ⟨j,hj,rfl,HK,rfl,HB⟩:=hrel
   by_cases hlt:j<l.length
   .have hlt2:j<m.length:=by rw [<- HN.out];exact hlt
    obtain ⟨b',o',rfl,hb',hl1⟩:=(H1.out _ HB).at_ j hlt;obtain ⟨b2,o2,rfl,hb2,hl2⟩:=(H2.out _ HB).at_ j hlt2;go_wp2
    go_quiet (fail)
    go_wp2
    .have he:(l[j] != m[j]'(by rw [<- HN.out];exact hlt))=true:=by assumption
     go_ret;refine ⟨aA2 ?_,HB.drewN _⟩
     symm
     simp only [decide_eq_false_iff_not]
     rintro rfl;simp at he
    .have he:(l[j] != m[j]'(by rw [<- HN.out];exact hlt))=false:=by assumption
     go_roundg (l.length-(j+1))
     case rel =>
      refine ⟨j+1,by omega,rfl,?_,by go_num,HB.drewN _⟩
      show l.take (j+1)=m.take (j+1)
      rw [List.take_succ_eq_append_getElem hlt,List.take_succ_eq_append_getElem (by rw [<- HN.out];exact hlt),HK.out,show l[j]=m[j]'(by rw [<- HN.out];exact hlt) by simpa using he]
     case measure=>omega
   .go_wp2
    go_ret;exact ⟨aA2 (by symm;simp only [decide_eq_true_eq];exact aMc (k:=j) (by omega) (by rw [<- HN.out];omega) HK.out),HB⟩
 .have hb:(l.length != m.length)=true:=by simpa using hn
  have hb2:((l.length:Int) != (m.length:Int))=true:=by simp;omega
  go_enter func47,ntmps47;go_wp2;go_ret;exact ⟨aA2 (by symm;simp only [decide_eq_false_iff_not];rintro rfl;exact hn rfl),Bel.refl w⟩
theorem aYl {a b:Int} {r:Int × Int} (h:r=(a,b)):Ending.returned (.tuple #[.int .i64 a,.int .i64 b]) = .returned (.tuple #[.int .i64 r.1,.int .i64 r.2]):=by rw [h]
theorem aCx (a:Int) (w:World):Calls prog 183 #[.int .i64 a] w fun e w'=>e = .returned (.int .i64 (aUw a))/\w=w':=by
 go_enter func183,ntmps183;go_wp2
 all_goals
  go_ret;refine ⟨aA4 ?_,rfl⟩
  unfold aUw;omega
theorem aD9 (b:Bool) (w:World):Calls prog 181 #[.bool b] w fun e w'=>e = .returned (.int .i64 (aC0 b))/\w=w':=by
 cases b
 all_goals
  go_enter func181,ntmps181;go_wp2;go_ret;exact ⟨rfl,rfl⟩
theorem aKr (a b:Int) (w:World) (ha:Num a) (hb:Num b):Calls prog 184 #[.int .i64 a,.int .i64 b] w fun e w'=>e = .returned (.int .i64 (aHa a b))/\w=w':=by
 by_cases h0:b=0
 .subst h0
  go_enter func184,ntmps184;go_wp2;go_ret;exact ⟨rfl,rfl⟩
 .have hz:(b==0)=false:=by simpa using h0
  have ht:=aNy a b ha;obtain ⟨ht1,ht2⟩:=ht;have ha':=ha;unfold Num at ha hb;obtain ⟨ha1,ha2⟩:=ha;obtain ⟨hb1,hb2⟩:=hb
  by_cases hm:a.tmod b=0
  .have hmb:(a.tmod b != 0)=false:=by simpa using hm
   have HF:Hid (aHa a b=a.tdiv b):=by
    show aHa a b=_
    unfold aHa;rw [if_neg h0,if_neg (by simp [hm])]
   clear hm;go_enter func184,ntmps184;go_wp2;go_ret;exact ⟨aA4 HF.out.symm,rfl⟩
  .have hmb:(a.tmod b != 0)=true:=by simpa using hm
   cases hs:(decide (a<0) != decide (b<0)) with
   | true =>
    have HF:Hid (aHa a b=a.tdiv b-1):=by
     show aHa a b=_
     unfold aHa;rw [if_neg h0,if_pos ⟨hm,hs⟩]
    have hs':(!(decide (a<0)==decide (b<0)))=true:=hs;clear hm hs;go_enter func184,ntmps184;go_wp2;go_ret;exact ⟨aA4 HF.out.symm,rfl⟩
   | false =>
    have HF:Hid (aHa a b=a.tdiv b):=by
     show aHa a b=_
     unfold aHa;rw [if_neg h0,if_neg (by simp [hs])]
    have hs':(!(decide (a<0)==decide (b<0)))=false:=hs;clear hm hs;go_enter func184,ntmps184;go_wp2;go_ret;exact ⟨aA4 HF.out.symm,rfl⟩
theorem aX3 (op a:Int) (w:World) (ha:Num a):Calls prog 164 #[.int .i64 op,.int .i64 a] w fun e w'=>e = .returned (.int .i64 (aKz op a))/\w=w':=by
 unfold Num at ha;obtain ⟨ha1,ha2⟩:=ha
 by_cases h:op=18
 .subst h
  go_enter func164,ntmps164;go_wp2;go_ret;exact ⟨rfl,rfl⟩
 .have HF:Hid (aKz op a=aC0 (a==0)):=by show aKz op a=_;unfold aKz;rw [if_neg h]
  have hb:(op==18)=false:=by simpa using h
  clear h;go_enter func164,ntmps164
  go_wp2_with (go_at_call 181;refine (aD9 _ _).mono ?_;rintro e w' ⟨rfl,rfl⟩)
  go_ret;exact ⟨aA4 HF.out.symm,rfl⟩
def cmpF (op a b:Int):Bool :=
 if op=35 then a==b else if op=36 then a != b else if op=37 then decide (a<b) else if op=38 then decide (a<=b) else if op=39 then decide (b<a) else decide (b<=a)
theorem aPe (op a b:Int) (w:World):Calls prog 185 #[.int .i64 op,.int .i64 a,.int .i64 b] w fun e w'=>e = .returned (.bool (cmpF op a b))/\w=w':=by
 go_enter func185,ntmps185;go_wp2
 all_goals
  go_ret;refine ⟨aA2 ?_,rfl⟩
  simp only [beq_iff_eq,beq_eq_false_iff_ne,ne_eq] at *
  unfold cmpF
  repeat' split
  all_goals first | rfl | omega
theorem aTi (op a b:Int) (h1:35<=op) (h2:op<=40):aV8 op a b=aC0 (cmpF op a b):=by
 have:op=35∨op=36∨op=37∨op=38∨op=39∨op=40:=by omega
 rcases this with h | h | h | h | h | h <;> subst h <;> rfl
theorem aTj (op a b:Int) (w:World) (h1:30<=op) (h2:op<=42) (ha:Num a) (hb:Num b):Calls prog 166 #[.int .i64 op,.int .i64 a,.int .i64 b] w fun e w'=>e = .returned (.int .i64 (aDw op a b))/\w=w':=by
 have hq:=aSc a b ha;have hm:=aQ0 a b ha (by unfold Num at hb;omega)
 have hm2:=aQ0 b (aHa a b) hb (by omega)
 obtain ⟨hq1,hq2⟩:=hq;obtain ⟨hm1,hm3⟩:=hm;obtain ⟨hm4,hm5⟩:=hm2;have HA:=aA0 ha;have HB:=aA0 hb;unfold Num at ha hb;obtain ⟨ha1,ha2⟩:=ha;obtain ⟨hb1,hb2⟩:=hb;have hcase:op=30∨op=31∨op=32∨op=33∨op=34∨(35<=op/\op<=40)∨op=41∨op=42:=by omega
 rcases hcase with h | h | h | h | h | h | h | h
 .subst h
  go_enter func166,ntmps166
  go_wp2_with (go_at_call 183;refine (aCx _ _).mono ?_;rintro e w' ⟨rfl,rfl⟩)
  go_ret;exact ⟨rfl,rfl⟩
 .subst h
  go_enter func166,ntmps166
  go_wp2_with (first
   | (go_at_call 183;refine (aCx _ _).mono ?_;rintro e w' ⟨rfl,rfl⟩)
   | (go_at_call 184;refine (aKr _ _ _ HA.out HB.out).mono ?_;rintro e w' ⟨rfl,rfl⟩))
  go_ret;exact ⟨rfl,rfl⟩
 .subst h
  by_cases h0:b=0
  .subst h0
   go_enter func166,ntmps166;go_wp2;go_ret;exact ⟨rfl,rfl⟩
  .have hz:(b==0)=false:=by simpa using h0
   have HF:Hid (aDw 32 a b=aUw (a-b*aHa a b)):=by
    show aDw 32 a b=_
    unfold aDw aV8;simp [h0]
   clear h0;go_enter func166,ntmps166
   go_wp2_with (first
    | (go_at_call 183;refine (aCx _ _).mono ?_;rintro e w' ⟨rfl,rfl⟩)
    | (go_at_call 184;refine (aKr _ _ _ HA.out HB.out).mono ?_;rintro e w' ⟨rfl,rfl⟩))
   go_ret;exact ⟨aA4 HF.out.symm,rfl⟩
 .subst h
  go_enter func166,ntmps166
  go_wp2_with (go_at_call 183;refine (aCx _ _).mono ?_;rintro e w' ⟨rfl,rfl⟩)
  go_ret;exact ⟨rfl,rfl⟩
 .subst h
  go_enter func166,ntmps166
  go_wp2_with (go_at_call 183;refine (aCx _ _).mono ?_;rintro e w' ⟨rfl,rfl⟩)
  go_ret;exact ⟨rfl,rfl⟩
 .have HF:Hid (aDw op a b=aC0 (cmpF op a b)):=by
   show aDw op a b=_
   unfold aDw;rw [aTi op a b h.1 h.2,aIp]
  have e1:(op==30)=false:=by simp;omega
  have e2:(op==31)=false:=by simp;omega
  have e3:(op==32)=false:=by simp;omega
  have e4:(op==33)=false:=by simp;omega
  have e5:(op==34)=false:=by simp;omega
  have e6:(op==41)=false:=by simp;omega
  have e7:(op==42)=false:=by simp;omega
  go_enter func166,ntmps166
  go_wp2_with (first
   | (go_at_call 185;refine (aPe _ _ _ _).mono ?_;rintro e w' ⟨rfl,rfl⟩)
   | (go_at_call 181;refine (aD9 _ _).mono ?_;rintro e w' ⟨rfl,rfl⟩))
  go_ret;exact ⟨aA4 HF.out.symm,rfl⟩
 .subst h
  have HF:Hid (aDw 41 a b=aC0 (a != 0&&b != 0)):=by show aDw 41 a b=_;exact aIp _
  by_cases h0:a=0
  .have hz:(a != 0)=false:=by simpa using h0
   rw [hz] at HF;clear h0;go_enter func166,ntmps166
   go_wp2_with (go_at_call 181;refine (aD9 _ _).mono ?_;rintro e w' ⟨rfl,rfl⟩)
   go_ret;exact ⟨aA4 HF.out.symm,rfl⟩
  .have hz:(a != 0)=true:=by simpa using h0
   rw [hz] at HF;clear h0;go_enter func166,ntmps166
   go_wp2_with (go_at_call 181;refine (aD9 _ _).mono ?_;rintro e w' ⟨rfl,rfl⟩)
   go_ret;exact ⟨aA4 HF.out.symm,rfl⟩
 .subst h
  have HF:Hid (aDw 42 a b=aC0 (a != 0||b != 0)):=by show aDw 42 a b=_;exact aIp _
  by_cases h0:a=0
  .have hz:(a != 0)=false:=by simpa using h0
   rw [hz] at HF;clear h0;go_enter func166,ntmps166
   go_wp2_with (go_at_call 181;refine (aD9 _ _).mono ?_;rintro e w' ⟨rfl,rfl⟩)
   go_ret;exact ⟨aA4 HF.out.symm,rfl⟩
  .have hz:(a != 0)=true:=by simpa using h0
   rw [hz] at HF;clear h0;go_enter func166,ntmps166
   go_wp2_with (go_at_call 181;refine (aD9 _ _).mono ?_;rintro e w' ⟨rfl,rfl⟩)
   go_ret;exact ⟨aA4 HF.out.symm,rfl⟩
end Go.Proofs.YtdcjnhoabbdanaaGreatDoor

