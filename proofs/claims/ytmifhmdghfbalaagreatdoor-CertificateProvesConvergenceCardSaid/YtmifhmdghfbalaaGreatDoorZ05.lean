/- Merged. -/
import Derived.Test.YtmifhmdghfbalaaGreatDoorZ03
import Derived.Test.YtmifhmdghfbalaaGreatDoorZ04
set_option linter.unusedSimpArgs false
set_option linter.unnecessarySimpa false
set_option linter.unusedVariables false
set_option maxRecDepth 100000
set_option maxHeartbeats 1000000
open Go.Proofs.Tryz

namespace Go.Proofs.YtmifhmdghfbalaaGreatDoor
open Go.RowKit
def aIu {α:Type} (size:Nat) (E:World->Nat->Nat->α->Prop) (w:World) (b o:Nat) (xs:List α):Prop :=
 ∃ A c,w.cell? ⟨b,o,none⟩=some (.slice A xs.length c)/\aAh size E w A xs.length xs/\xs.length<=c/\c<=maxLen
theorem aIu.keeps {α:Type} {size:Nat} {E:World->Nat->Nat->α->Prop} (hE:aO4 E):aO4 (aIu size E):=by
 intro w w' b o x k hb ⟨A,c,h1,h2,h3,h4⟩
 exact ⟨A,c,(k.cell hb).trans h1,h2.keep hE k,h3,h4⟩
def aQ7 (w:World) (b o:Nat) (l:Link):Prop:=w.cell? ⟨b,o,none⟩=some (.int .i64 l.to)/\w.cell? ⟨b,o+1,none⟩=some (.int .i64 l.weight)
theorem aQ7.keeps:aO4 aQ7:=fun _ _ _ _ _ k hb h=>⟨(k.cell hb).trans h.1,(k.cell hb).trans h.2⟩
def aIt:=aAh 2 aQ7
def aH0:=aAh 1 (aIu 2 aQ7)
def aMd:=aAh 1 (aIu 1 aKc)
theorem aIt.keep {w w':World} {A:Option Addr} {n:Nat} {xs:List Link} (h:aIt w A n xs) (k:Bel w w'):aIt w' A n xs:=aAh.keep aQ7.keeps h k
theorem aH0.keep {w w':World} {A:Option Addr} {n:Nat} {xs:List (List Link)} (h:aH0 w A n xs) (k:Bel w w'):aH0 w' A n xs:=aAh.keep (aIu.keeps aQ7.keeps) h k
theorem aMd.keep {w w':World} {A:Option Addr} {n:Nat} {xs:List (List Int)} (h:aMd w A n xs) (k:Bel w w'):aMd w' A n xs:=aAh.keep (aIu.keeps aKc.keeps) h k
theorem aIt.at_ {w:World} {A:Option Addr} {n:Nat} {xs:List Link} (h:aIt w A n xs) (k:Nat) (hk:k<xs.length) :
  ∃ b o,A=some ⟨b,o,none⟩/\b<w.heap.size/\w.cell? ⟨b,o+k*2,none⟩=some (.int .i64 xs[k].to)/\w.cell? ⟨b,o+k*2+1,none⟩=some (.int .i64 xs[k].weight):=aAh.at_ h k hk
theorem RowsAt.at_ {α:Type} {size:Nat} {E:World->Nat->Nat->α->Prop} {w:World} {A:Option Addr} {n:Nat} {xs:List (List α)} (h:aAh 1 (aIu size E) w A n xs) (k:Nat) (hk:k<xs.length) :
  ∃ b o R c,A=some ⟨b,o,none⟩/\b<w.heap.size/\w.cell? ⟨b,o+k,none⟩=some (.slice R xs[k].length c)/\aAh size E w R xs[k].length xs[k]/\xs[k].length<=c/\c<=maxLen:=by
 obtain ⟨b,o,e,hb,R,c,h1,h2,h3,h4⟩:=aAh.at_ h k hk;exact ⟨b,o,R,c,e,hb,by rw [Nat.mul_one] at h1;exact h1,h2,h3,h4⟩
theorem aH0.at_ {w:World} {A:Option Addr} {n:Nat} {xs:List (List Link)} (h:aH0 w A n xs) (k:Nat) (hk:k<xs.length) :
  ∃ b o R c,A=some ⟨b,o,none⟩/\b<w.heap.size/\w.cell? ⟨b,o+k,none⟩=some (.slice R xs[k].length c)/\aIt w R xs[k].length xs[k]/\xs[k].length<=c/\c<=maxLen:=RowsAt.at_ h k hk
theorem aMd.at_ {w:World} {A:Option Addr} {n:Nat} {xs:List (List Int)} (h:aMd w A n xs) (k:Nat) (hk:k<xs.length) :
  ∃ b o R c,A=some ⟨b,o,none⟩/\b<w.heap.size/\w.cell? ⟨b,o+k,none⟩=some (.slice R xs[k].length c)/\aB7 w R xs[k].length xs[k]/\xs[k].length<=c/\c<=maxLen:=RowsAt.at_ h k hk
def aAl (w:World) (v:Value) (g:Graph):Prop :=
 ∃ A c A2 c2,v = .agg #[.slice A g.ids.length c,.slice A2 g.ports.length c2]/\aB7 w A g.ids.length g.ids/\g.ids.length<=c/\c<=maxLen/\aH0 w A2 g.ports.length g.ports/\g.ports.length<=c2/\c2<=maxLen
theorem aAl.keep {w w':World} {v:Value} {g:Graph} (h:aAl w v g) (k:Bel w w'):aAl w' v g:=by
 obtain ⟨A,c,A2,c2,e,h1,h2,h3,h4,h5,h6⟩:=h;exact ⟨A,c,A2,c2,e,h1.keep k,h2,h3,h4.keep k,h5,h6⟩
def bCh (w:World) (b o:Nat) (x:Var):Prop :=
 w.cell? ⟨b,o,none⟩=some (.string x.name)/\w.cell? ⟨b,o+1,none⟩=some (.int .i64 x.kind)/\w.cell? ⟨b,o+2,none⟩=some (.int .i64 x.lo)/\w.cell? ⟨b,o+3,none⟩=some (.int .i64 x.hi)/\w.cell? ⟨b,o+4,none⟩=some (.int .i64 x.perNode)/\w.cell? ⟨b,o+5,none⟩=some (.int .i64 x.perID)
theorem bCh.keeps:aO4 bCh:=fun _ _ _ _ _ k hb h=>⟨(k.cell hb).trans h.1,(k.cell hb).trans h.2.1,(k.cell hb).trans h.2.2.1,(k.cell hb).trans h.2.2.2.1,(k.cell hb).trans h.2.2.2.2.1,(k.cell hb).trans h.2.2.2.2.2⟩
def aKh:=aAh 6 bCh
theorem aKh.keep {w w':World} {A:Option Addr} {n:Nat} {xs:List Var} (h:aKh w A n xs) (k:Bel w w'):aKh w' A n xs:=aAh.keep bCh.keeps h k
theorem aKh.at_ {w:World} {A:Option Addr} {n:Nat} {xs:List Var} (h:aKh w A n xs) (k:Nat) (hk:k<xs.length) :
  ∃ b o,A=some ⟨b,o,none⟩/\b<w.heap.size/\bCh w b (o+k*6) xs[k]:=aAh.at_ h k hk
def aZf (w:World) (b o:Nat) (x:SetT):Prop:=w.cell? ⟨b,o,none⟩=some (.int .i64 x.var)/\aIu 2 aK3 w b (o+1) x.value
theorem aZf.keeps:aO4 aZf:=fun _ _ _ _ _ k hb h=>⟨(k.cell hb).trans h.1,aIu.keeps aK3.keeps _ _ _ _ _ k hb h.2⟩
def aO5:=aAh 2 aZf
theorem aO5.keep {w w':World} {A:Option Addr} {n:Nat} {xs:List SetT} (h:aO5 w A n xs) (k:Bel w w'):aO5 w' A n xs:=aAh.keep aZf.keeps h k
theorem aO5.at_ {w:World} {A:Option Addr} {n:Nat} {xs:List SetT} (h:aO5 w A n xs) (k:Nat) (hk:k<xs.length) :
  ∃ b o R c,A=some ⟨b,o,none⟩/\b<w.heap.size/\w.cell? ⟨b,o+k*2,none⟩=some (.int .i64 xs[k].var)/\w.cell? ⟨b,o+k*2+1,none⟩=some (.slice R xs[k].value.length c)/\aAr w R xs[k].value.length xs[k].value/\xs[k].value.length<=c/\c<=maxLen:=by
 obtain ⟨b,o,e,hb,h1,R,c,h2,h3,h4,h5⟩:=aAh.at_ h k hk;exact ⟨b,o,R,c,e,hb,h1,h2,h3,h4,h5⟩
def aWc (w:World) (b o:Nat) (x:Rule):Prop:=w.cell? ⟨b,o,none⟩=some (.string x.name)/\aIu 2 aK3 w b (o+1) x.guard/\aIu 2 aZf w b (o+2) x.sets
theorem aWc.keeps:aO4 aWc:=fun _ _ _ _ _ k hb h=>⟨(k.cell hb).trans h.1,aIu.keeps aK3.keeps _ _ _ _ _ k hb h.2.1,aIu.keeps aZf.keeps _ _ _ _ _ k hb h.2.2⟩
def aHg:=aAh 3 aWc
theorem aHg.keep {w w':World} {A:Option Addr} {n:Nat} {xs:List Rule} (h:aHg w A n xs) (k:Bel w w'):aHg w' A n xs:=aAh.keep aWc.keeps h k
def aWd (w:World) (v:Value) (r:Rule):Prop :=
 ∃ G c S c2,v = .agg #[.string r.name,.slice G r.guard.length c,.slice S r.sets.length c2]/\aAr w G r.guard.length r.guard/\r.guard.length<=c/\c<=maxLen/\aO5 w S r.sets.length r.sets/\r.sets.length<=c2/\c2<=maxLen
theorem aWd.keep {w w':World} {v:Value} {g:Rule} (h:aWd w v g) (k:Bel w w'):aWd w' v g:=by
 obtain ⟨A,c,A2,c2,e,h1,h2,h3,h4,h5,h6⟩:=h;exact ⟨A,c,A2,c2,e,h1.keep k,h2,h3,h4.keep k,h5,h6⟩
theorem aHg.at_ {w:World} {A:Option Addr} {n:Nat} {xs:List Rule} (h:aHg w A n xs) (k:Nat) (hk:k<xs.length) :
  ∃ b o G c S c2,A=some ⟨b,o,none⟩/\b<w.heap.size/\w.cell? ⟨b,o+k*3,none⟩=some (.string xs[k].name)/\w.cell? ⟨b,o+k*3+1,none⟩=some (.slice G xs[k].guard.length c)/\w.cell? ⟨b,o+k*3+2,none⟩=some (.slice S xs[k].sets.length c2)
   /\ aAr w G xs[k].guard.length xs[k].guard/\xs[k].guard.length<=c/\c<=maxLen/\aO5 w S xs[k].sets.length xs[k].sets/\xs[k].sets.length<=c2/\c2<=maxLen:=by
 obtain ⟨b,o,e,hb,h1,⟨G,c,h2,h3,h4,h5⟩,S,c2,h6,h7,h8,h9⟩:=aAh.at_ h k hk;exact ⟨b,o,G,c,S,c2,e,hb,h1,h2,h6,h3,h4,h5,h7,h8,h9⟩
def aE0 (w:World) (v:Value) (p:Prg):Prop :=
 ∃ A c A2 c2,v = .agg #[.string p.name,.slice A p.vars.length c,.slice A2 p.rules.length c2]/\aKh w A p.vars.length p.vars/\p.vars.length<=c/\c<=maxLen/\aHg w A2 p.rules.length p.rules/\p.rules.length<=c2/\c2<=maxLen
theorem aE0.keep {w w':World} {v:Value} {p:Prg} (h:aE0 w v p) (k:Bel w w'):aE0 w' v p:=by
 obtain ⟨A,c,A2,c2,e,h1,h2,h3,h4,h5,h6⟩:=h;exact ⟨A,c,A2,c2,e,h1.keep k,h2,h3,h4.keep k,h5,h6⟩
def aDf (w:World) (v:Value) (c:aA8):Prop:=∃ A k,v = .slice A c.length k/\aMd w A c.length c/\c.length<=k/\k<=maxLen
theorem aDf.keep {w w':World} {v:Value} {c:aA8} (h:aDf w v c) (k:Bel w w'):aDf w' v c:=by
 obtain ⟨A,n,e,h1,h2,h3⟩:=h;exact ⟨A,n,e,h1.keep k,h2,h3⟩
theorem aAb {α:Type} {f:α->Bool} {l:List α} {k:Nat} (h:k<l.length) (ha:(l.take k).all f=true) (hk:f l[k]=true):(l.take (k+1)).all f=true:=by
 rw [List.take_succ_eq_append_getElem h,List.all_append,ha];simp [hk]
theorem aAv {α:Type} {f:α->Bool} {l:List α} {k:Nat} (h:k<l.length) (hk:f l[k]=false):l.all f=false:=by
 rw [List.all_eq_false];exact ⟨l[k],List.getElem_mem h,by simp [hk]⟩
theorem aAy {α:Type} {f:α->Bool} {l:List α} {k:Nat} (h:l.length<=k) (ha:(l.take k).all f=true):l.all f=true:=by rwa [List.take_of_length_le h] at ha
def aE1 (c:aA8):Bool:=decide (c.length<=30)&&c.all fun r=>decide (r.length<=10)
theorem aDc (v:Value) (c:aA8) (w:World) (h:aDf w v c) :
  Calls prog 51 #[v] w fun e w'=>e = .returned (.bool (aE1 c))/\w=w':=by
 obtain ⟨A,k,rfl,hr,_,_⟩:=h;have H:=aA1 hr;clear hr
 by_cases hl:c.length<=30
 .go_enter func51,ntmps51
  go_wp2
  go_loopg [3] c.length (fun g i wr=>∃ j:Nat,j<=c.length/\g=c.length-j/\Hid ((c.take j).all (fun r=>decide (r.length<=10))=true)/\i = .int .i64 j/\w=wr)
  case atStart=>exact ⟨0,by omega,rfl,rfl,rfl,rfl⟩
  case round =>
   obtain ⟨j,hj,rfl,HK,rfl,rfl⟩:=hrel
   by_cases hlt:j<c.length
   .obtain ⟨b,o,R,c1,rfl,hb,hc1,_,_,_⟩:=H.out.at_ j hlt
    go_wp2
    .go_ret
     exact ⟨aA2 (by unfold aE1;rw [aAv hlt (by simp;omega)];simp),rfl⟩
    .go_roundg (c.length-(j+1))
     case rel=>exact ⟨j+1,by omega,rfl,aAb hlt HK.out (by simp;omega),by go_num,rfl⟩
     case measure=>omega
   .go_wp2
    go_ret;exact ⟨aA2 (by unfold aE1;rw [aAy (by omega) HK.out];simp [hl]),rfl⟩
 .go_enter func51,ntmps51
  go_wp2;go_ret;exact ⟨aA2 (by unfold aE1;simp [hl]),rfl⟩
def aB3 (g:Graph):Bool:=decide (g.ids.length<=30)&&decide (g.ports.length<=30)&&g.ports.all fun r=>decide (r.length<=30)
theorem aM5 (v:Value) (g:Graph) (w:World) (h:aAl w v g) :
  Calls prog 113 #[v] w fun e w'=>e = .returned (.bool (aB3 g))/\Bel w w':=by
 obtain ⟨A,k,A2,k2,rfl,_,_,_,hr,_,_⟩:=h;have H:=aA1 hr;clear hr
 by_cases hl:g.ids.length<=30/\g.ports.length<=30
 .obtain ⟨hl1,hl2⟩:=hl
  go_enter func113,ntmps113;go_wp2
  go_loopg [3] g.ports.length (fun m i wr=>∃ j:Nat,j<=g.ports.length/\m=g.ports.length-j/\Hid ((g.ports.take j).all (fun r=>decide (r.length<=30))=true)/\i = .int .i64 j/\w.alloc (.cells #[.slice A g.ids.length k,.slice A2 g.ports.length k2] 29)=wr)
  case atStart=>exact ⟨0,by omega,rfl,rfl,rfl,rfl⟩
  case round =>
   obtain ⟨j,hj,rfl,HK,rfl,rfl⟩:=hrel
   by_cases hlt:j<g.ports.length
   .obtain ⟨b,o,R,c1,rfl,hb,hc1,_,_,_⟩:=H.out.at_ j hlt
    go_wp2
    .go_ret
     exact ⟨aA2 (by unfold aB3;rw [aAv hlt (by simp;omega)];simp),(Bel.refl _).alloc _⟩
    .go_roundg (g.ports.length-(j+1))
     case rel=>exact ⟨j+1,by omega,rfl,aAb hlt HK.out (by simp;omega),by go_num,rfl⟩
     case measure=>omega
   .go_wp2
    go_ret;exact ⟨aA2 (by unfold aB3;rw [aAy (by omega) HK.out];simp [hl1,hl2]),(Bel.refl _).alloc _⟩
 .have hf:Hid (aB3 g=false):=by
   show aB3 g=false
   unfold aB3;rw [Bool.eq_false_iff];intro h;simp at h;omega
  by_cases h1:30<g.ids.length
  .go_enter func113,ntmps113
   go_wp2;go_ret;exact ⟨aA2 hf.out.symm,(Bel.refl _).alloc _⟩
  .have h2:30<g.ports.length:=by omega
   clear hl;go_enter func113,ntmps113;go_wp2;go_ret;exact ⟨aA2 hf.out.symm,(Bel.refl _).alloc _⟩
def aF1 (g:Graph):Nat:=(g.ports.map List.length).foldl max 1
theorem aV8 (l:List Nat) (a b:Nat) (ha:a<=b) (h:∀ x∈l,x<=b):l.foldl max a<=b:=by
 induction l generalizing a with
 | nil=>exact ha
 | cons x l ih=>exact ih _ (Nat.max_le.2 ⟨ha,h x (by simp)⟩) (fun y hy=>h y (by simp [hy]))
theorem aV7 (l:List Nat) (a:Nat):a<=l.foldl max a:=by
 induction l generalizing a with
 | nil=>exact Nat.le_refl _
 | cons x l ih=>exact Nat.le_trans (Nat.le_max_left a x) (ih _)
theorem bJ3 (a b:Nat):∃ m:Nat,(if a<b then (b:Int) else (a:Int))=(m:Int)/\m=max a b:=⟨max a b,by split <;> omega,rfl⟩
theorem aQs (v:Value) (g:Graph) (w:World) (h:aAl w v g) :
  Calls prog 59 #[v] w fun e w'=>e = .returned (.int .i64 (aF1 g:Nat))/\Bel w w':=by
 obtain ⟨A,k,A2,k2,rfl,_,_,_,hr,_,hm⟩:=h;have hmx:g.ports.length<=9223372036854775807:=by unfold maxLen at hm;omega
 have H:=aA1 hr;clear hr;go_enter func59,ntmps59;go_wp2
 go_loopg [3,4] g.ports.length (fun m d i wr=>∃ j:Nat,j<=g.ports.length/\m=g.ports.length-j/\d = .int .i64 ((((g.ports.take j).map List.length).foldl max 1:Nat):Int)/\i = .int .i64 j/\w.alloc (.cells #[.slice A g.ids.length k,.slice A2 g.ports.length k2] 29)=wr)
 case atStart=>exact ⟨0,by omega,rfl,rfl,rfl,rfl⟩
 case round =>
  obtain ⟨j,hj,rfl,rfl,rfl,rfl⟩:=hrel
  by_cases hlt:j<g.ports.length
  .obtain ⟨b,o,R,c1,rfl,hb,hc1,_,_,_⟩:=H.out.at_ j hlt
   have hs:((g.ports.take (j+1)).map List.length).foldl max 1=max (((g.ports.take j).map List.length).foldl max 1) g.ports[j].length:=by
    rw [List.take_succ_eq_append_getElem hlt,List.map_append,List.foldl_append];rfl
   have HS:=aA1 hs;clear hs;generalize ((g.ports.take j).map List.length).foldl max 1=D at *;obtain ⟨m,hm1,hm2⟩:=bJ3 D g.ports[j].length;have HM:=aA1 hm2;clear hm2;go_wp2
   go_roundg (g.ports.length-(j+1))
   case rel=>exact ⟨j+1,by omega,rfl,by rw [HS.out,<- HM.out],by go_num,rfl⟩
   case measure=>omega
  .go_wp2
   go_ret;exact ⟨aA4 (by unfold aF1;rw [List.take_of_length_le (by omega)]),(Bel.refl _).alloc _⟩
theorem aA9 {w wr:World} {cs:Array Value} {t:TypeId} (h:Bel (w.alloc (.cells cs t)) wr) (i:Nat) {v:Value} (hv:cs[i]?=some v):wr.cell? ⟨w.heap.size,i,none⟩=some v :=
 (h.cell (by simp)).trans ((Blk.new w cs t).cell i hv)
theorem aAz {w wr:World} {cs:Array Value} {t:TypeId} (h:Bel (w.alloc (.cells cs t)) wr):w.heap.size<wr.heap.size:=by
 have:=h.size;simp at this;omega
theorem aA3 {w wr:World} {o:Obj} (h:Bel (w.alloc o) wr):Bel w wr:=((Bel.refl w).alloc o).trans h
theorem bK0 {w wr:World} {cs ds:Array Value} {t u:TypeId} (h:Bel ((w.alloc (.cells cs t)).alloc (.cells ds u)) wr) :
  (∀ i v,cs[i]?=some v->wr.cell? ⟨w.heap.size,i,none⟩=some v)/\(∀ i v,ds[i]?=some v->wr.cell? ⟨w.heap.size+1,i,none⟩=some v)/\w.heap.size+1<wr.heap.size:=by
 refine ⟨fun i v hv=>?_,fun i v hv=>?_,?_⟩
 .exact (h.cell (by simp;omega)).trans (((Blk.new w cs t).alloc _).cell i hv)
 .have:=aA9 h i hv
  simpa using this
 .have:=aAz h
  simpa using this
theorem aA6 {w wr:World} {a b c d e:Value} {t u:TypeId} (h:Bel ((w.alloc (.cells #[a,b,c] t)).alloc (.cells #[d,e] u)) wr) :
  wr.cell? ⟨w.heap.size,0,none⟩=some a/\wr.cell? ⟨w.heap.size,1,none⟩=some b/\wr.cell? ⟨w.heap.size,2,none⟩=some c/\wr.cell? ⟨w.heap.size+1,0,none⟩=some d/\wr.cell? ⟨w.heap.size+1,1,none⟩=some e/\w.heap.size+1<wr.heap.size:=by
 obtain ⟨h1,h2,h3⟩:=bK0 h;exact ⟨h1 0 _ rfl,h1 1 _ rfl,h1 2 _ rfl,h2 0 _ rfl,h2 1 _ rfl,h3⟩
theorem aA0 {w wr:World} {o o2:Obj} (h:Bel ((w.alloc o).alloc o2) wr):Bel w wr:=aA3 (aA3 h)
def aH1 (r:Rule):Bool:=decide (r.name.size<=40)&&decide (r.sets.length<=10)&&decide (r.guard.length<=250)&&r.sets.all fun s=>decide (s.value.length<=250)
def aAt (p:Prg):Bool:=decide (p.name.size<=40)&&decide (p.vars.length<=10)&&decide (p.rules.length<=16)&&p.vars.all (fun x=>decide (x.name.size<=40))&&p.rules.all aH1
theorem aGx (v:Value) (p:Prg) (w:World) (h:aE0 w v p) :
  Calls prog 112 #[v] w fun e w'=>e = .returned (.bool (aAt p))/\Bel w w':=by
 obtain ⟨A,k,A2,k2,rfl,hv,_,_,hr,_,_⟩:=h;have HV:=aA1 hv;clear hv;have HR:=aA1 (fun w' (k:Bel w w')=>hr.keep k);clear hr
 by_cases hl:p.name.size<=40/\p.vars.length<=10/\p.rules.length<=16
 .obtain ⟨hl1,hl2,hl3⟩:=hl
  go_enter func112,ntmps112;go_wp2
  go_loopg [3] p.vars.length (fun m i wr=>∃ j:Nat,j<=p.vars.length/\m=p.vars.length-j/\Hid ((p.vars.take j).all (fun x=>decide (x.name.size<=40))=true)/\i = .int .i64 j/\w.alloc (.cells #[.string p.name,.slice A p.vars.length k,.slice A2 p.rules.length k2] 25)=wr)
  case atStart=>exact ⟨0,by omega,rfl,rfl,rfl,rfl⟩
  case round =>
   obtain ⟨j,hj,rfl,HK,rfl,rfl⟩:=hrel
   by_cases hlt:j<p.vars.length
   .obtain ⟨b,o,rfl,hb,hc1,_⟩:=HV.out.at_ j hlt
    go_wp2
    .go_ret
     exact ⟨aA2 (by unfold aAt;rw [aAv hlt (by simp;omega)];simp),(Bel.refl _).alloc _⟩
    .go_roundg (p.vars.length-(j+1))
     case rel=>exact ⟨j+1,by omega,rfl,aAb hlt HK.out (by simp;omega),by go_num,rfl⟩
     case measure=>omega
   .have HVA:=aA1 (aAy (by omega) HK.out);clear HK HV
    go_wp2
    go_loopg [4] p.rules.length (fun m i wr=>∃ j:Nat,j<=p.rules.length/\m=p.rules.length-j/\Hid ((p.rules.take j).all aH1=true)/\i = .int .i64 j/\Bel (w.alloc (.cells #[.string p.name,.slice A p.vars.length k,.slice A2 p.rules.length k2] 25)) wr)
    case atStart=>exact ⟨0,by omega,rfl,rfl,rfl,Bel.refl _⟩
    case round =>
     obtain ⟨i,hi,rfl,HK,rfl,HB⟩:=hrel;have b1:=aA9 HB 2 rfl;have b0:=aAz HB
     by_cases hlt:i<p.rules.length
     .obtain ⟨b,o,G,c,S,c2,rfl,hb,hc1,hc2,hc3,_,_,_,hS,_,_⟩:=(HR.out _ (aA3 HB)).at_ i hlt
      have HS:=aA1 hS;clear hS;have HB2:=HB.alloc (.cells #[.string p.rules[i].name,.slice G p.rules[i].guard.length c,.slice S p.rules[i].sets.length c2] 154)
      by_cases hl:p.rules[i].name.size<=40/\p.rules[i].sets.length<=10/\p.rules[i].guard.length<=250
      .obtain ⟨hq1,hq2,hq3⟩:=hl
       have hd3:decide (p.rules[i].guard.length<=250)=true:=by simpa using hq3
       go_wp2_with (go_at_call 144;refine (aHt _ _ _ _).mono ?_;rintro e w' ⟨rfl,rfl⟩)
       go_loopg [6] p.rules[i].sets.length (fun m x ws=>∃ j:Nat,j<=p.rules[i].sets.length/\m=p.rules[i].sets.length-j/\Hid ((p.rules[i].sets.take j).all (fun s=>decide (s.value.length<=250))=true)/\x = .int .i64 j/\wr.alloc (.cells #[.string p.rules[i].name,.slice G p.rules[i].guard.length c,.slice S p.rules[i].sets.length c2] 154)=ws)
       case atStart=>exact ⟨0,by omega,rfl,rfl,rfl,rfl⟩
       case round =>
        obtain ⟨q,hq,rfl,HQ,rfl,rfl⟩:=hrel
        by_cases hlt2:q<p.rules[i].sets.length
        .obtain ⟨b',o',R,c',rfl,hb',hs1,hs2,_,_,_⟩:=HS.out.at_ q hlt2
         by_cases hle:p.rules[i].sets[q].value.length<=250
         .have hd4:decide (p.rules[i].sets[q].value.length<=250)=true:=by simpa using hle
          go_wp2_with (go_at_call 144;refine (aHt _ _ _ _).mono ?_;rintro e w' ⟨rfl,rfl⟩)
          go_roundg (p.rules[i].sets.length-(q+1))
          case rel=>exact ⟨q+1,by omega,rfl,aAb hlt2 HQ.out (by simp;omega),by go_num,rfl⟩
          case measure=>omega
         .have hd4:decide (p.rules[i].sets[q].value.length<=250)=false:=by simpa using hle
          go_wp2_with (go_at_call 144;refine (aHt _ _ _ _).mono ?_;rintro e w' ⟨rfl,rfl⟩)
          go_ret;exact ⟨aA2 (by unfold aAt;rw [aAv hlt (by unfold aH1;rw [aAv hlt2 hd4];simp)];simp),aA3 HB2⟩
        .go_wp2
         go_roundg (p.rules.length-(i+1))
         case rel=>exact ⟨i+1,by omega,rfl,aAb hlt HK.out (by unfold aH1;rw [aAy (by omega) HQ.out];simp [hq1,hq2,hq3]),by go_num,HB2⟩
         case measure=>omega
      .have hf:Hid (aAt p=false):=by
        show aAt p=false
        unfold aAt;rw [aAv hlt (by unfold aH1;rw [Bool.eq_false_iff];intro h;simp at h;omega)];simp
       by_cases hq:250<p.rules[i].guard.length
       .have hd3:decide (p.rules[i].guard.length<=250)=false:=by simpa using hq
        go_wp2_with (go_at_call 144;refine (aHt _ _ _ _).mono ?_;rintro e w' ⟨rfl,rfl⟩)
        all_goals (go_ret;exact ⟨aA2 hf.out.symm,aA3 HB2⟩)
       .have hd3:decide (p.rules[i].guard.length<=250)=true:=by simpa using hq
        go_wp2_with (go_at_call 144;refine (aHt _ _ _ _).mono ?_;rintro e w' ⟨rfl,rfl⟩)
        all_goals first
         | (go_ret;exact ⟨aA2 hf.out.symm,aA3 HB2⟩)
         | omega
     .go_wp2
      go_ret;exact ⟨aA2 (by unfold aAt;rw [HVA.out,aAy (by omega) HK.out];simp [hl1,hl2,hl3]),aA3 HB⟩
 .have hf:Hid (aAt p=false):=by
   show aAt p=false
   unfold aAt;rw [Bool.eq_false_iff];intro h;simp at h;omega
  go_enter func112,ntmps112;go_wp2
  all_goals first
   | (go_ret;exact ⟨aA2 hf.out.symm,(Bel.refl _).alloc _⟩)
   | omega
def inB (v lo hi:Int):Bool:=decide (lo<=v/\v<=hi)
theorem aEi {v lo hi:Int} (h1:lo<=v) (h2:v<=hi):inB v lo hi=true:=by unfold inB;simp [h1,h2]
theorem aHr {v lo hi:Int} (h:v<lo∨hi<v):inB v lo hi=false:=by unfold inB;simp;omega
theorem aIn {v lo hi:Int}:inB v lo hi=true↔lo<=v/\v<=hi:=by unfold inB;simp
theorem aBs (v lo hi:Int) (w:World):Calls prog 110 #[.int .i64 v,.int .i64 lo,.int .i64 hi] w fun e w'=>e = .returned (.bool (inB v lo hi))/\w=w':=by
 go_enter func110,ntmps110;go_wp2
 all_goals (go_ret;refine ⟨aA2 ?_,rfl⟩;unfold inB;rw [Bool.eq_iff_iff];simp) <;> omega
theorem aFl (v lo hi:Int) (w:World):Calls prog 190 #[.int .i64 v,.int .i64 lo,.int .i64 hi] w fun e w'=>e = .returned (.bool (inB v lo hi))/\w=w':=by
 go_enter func190,ntmps190;go_wp2
 all_goals (go_ret;refine ⟨aA2 ?_,rfl⟩;unfold inB;rw [Bool.eq_iff_iff];simp) <;> omega
theorem aJ7 (v lo hi:Int) (w:World):Calls prog 254 #[.int .i64 v,.int .i64 lo,.int .i64 hi] w fun e w'=>e = .returned (.bool (inB v lo hi))/\w=w':=by
 go_enter func254,ntmps254;go_wp2
 all_goals (go_ret;refine ⟨aA2 ?_,rfl⟩;unfold inB;rw [Bool.eq_iff_iff];simp) <;> omega
theorem aU0 (v:Value) (g:Graph) (i:Nat) (u:Int) (w:World) (h:aAl w v g) (hi:i<g.ports.length) :
  Calls prog 176 #[v,.int .i64 i,.int .i64 u] w fun e w'=>e = .returned (.int .i64 (aEw g.ports[i] u))/\Bel w w':=by
 obtain ⟨A,k,A2,k2,rfl,_,_,_,hr,_,hm⟩:=h;obtain ⟨b,o,R,c1,rfl,hb,hc1,hL,hn,hm2⟩:=hr.at_ i hi;have H:=aA1 hL;clear hL hr;unfold maxLen at hm hm2;go_enter func176,ntmps176;go_wp2
 go_loopg [7] g.ports[i].length (fun m x wr=>∃ j:Nat,j<=g.ports[i].length/\m=g.ports[i].length-j/\Hid ((g.ports[i].take j).all (fun l => !(l.to==u))=true)/\x = .int .i64 j/\w.alloc (.cells #[.slice A g.ids.length k,.slice (some ⟨b,o,none⟩) g.ports.length k2] 29)=wr)
 case atStart=>exact ⟨0,by omega,rfl,rfl,rfl,rfl⟩
 case round =>
  obtain ⟨j,hj,rfl,HK,rfl,rfl⟩:=hrel
  by_cases hlt:j<g.ports[i].length
  .obtain ⟨b',o',rfl,hb',hl1,hl2⟩:=H.out.at_ j hlt
   by_cases he:(g.ports[i][j].to==u)=true
   .go_wp2
    go_ret;exact ⟨aA4 (aRv hlt HK.out he).symm,(Bel.refl _).alloc _⟩
   .have he':(g.ports[i][j].to==u)=false:=by simpa using he
    clear he;go_wp2
    go_roundg (g.ports[i].length-(j+1))
    case rel=>exact ⟨j+1,by omega,rfl,aAb hlt HK.out (by simp [he']),by go_num,rfl⟩
    case measure=>omega
  .go_wp2
   go_ret;exact ⟨aA4 (aU1 (aAy (by omega) HK.out)).symm,(Bel.refl _).alloc _⟩
theorem bE2 (v:Value) (g:Graph) (i:Nat) (u:Int) (w:World) (h:aAl w v g) (hi:i<g.ports.length) :
  Calls prog 153 #[v,.int .i64 i,.int .i64 u] w fun e w'=>e = .returned (.int .i64 (aEw g.ports[i] u))/\Bel w w':=by
 obtain ⟨A,k,A2,k2,rfl,_,_,_,hr,_,hm⟩:=h;obtain ⟨b,o,R,c1,rfl,hb,hc1,hL,hn,hm2⟩:=hr.at_ i hi;have H:=aA1 (fun w' (k:Bel w w')=>aIt.keep hL k);clear hL hr;unfold maxLen at hm hm2;go_enter func153,ntmps153;go_wp2
 go_loopg [7,8,15] g.ports[i].length (fun m _x _y z wr=>∃ j:Nat,j<=g.ports[i].length/\m=g.ports[i].length-j/\Hid ((g.ports[i].take j).all (fun l => !(l.to==u))=true)/\z = .int .i64 j/\Bel w wr)
 case atStart=>exact ⟨0,by omega,rfl,rfl,rfl,(Bel.refl w).alloc _⟩
 case round =>
  obtain ⟨j,hj,rfl,HK,rfl,HB⟩:=hrel
  by_cases hlt:j<g.ports[i].length
  .obtain ⟨b',o',rfl,hb',hl1,hl2⟩:=(H.out _ HB).at_ j hlt
   have HB2:=HB.alloc (.cells #[.int .i64 g.ports[i][j].to,.int .i64 g.ports[i][j].weight] 161)
   by_cases he:(g.ports[i][j].to==u)=true
   .go_wp2
    go_ret;exact ⟨aA4 (aRv hlt HK.out he).symm,HB2⟩
   .have he':(g.ports[i][j].to==u)=false:=by simpa using he
    clear he;go_wp2
    go_roundg (g.ports[i].length-(j+1))
    case rel=>exact ⟨j+1,by omega,rfl,aAb hlt HK.out (by simp [he']),by go_num,HB2⟩
    case measure=>omega
  .go_wp2
   go_ret;exact ⟨aA4 (aU1 (aAy (by omega) HK.out)).symm,HB⟩
theorem aRh {l m:List Int} {k:Nat} (h1:l.length<=k) (h2:m.length<=k) (h:l.take k=m.take k):l=m:=by rwa [List.take_of_length_le h1,List.take_of_length_le h2] at h
theorem aGv (A:Option Addr) (c:Nat) (l:List Int) (A2:Option Addr) (c2:Nat) (m:List Int) (w:World) (h1:aB7 w A l.length l) (h2:aB7 w A2 m.length m) (hl:l.length<=1000000) :
  Calls prog 43 #[.slice A l.length c,.slice A2 m.length c2] w fun e w'=>e = .returned (.bool (decide (l=m)))/\Bel w w':=by
 have H1:=aA1 (fun w' (k:Bel w w')=>aB7.keep h1 k);clear h1;have H2:=aA1 (fun w' (k:Bel w w')=>aB7.keep h2 k);clear h2
 by_cases hn:l.length=m.length
 .have HN:=aA1 hn
  rw [<- hn];clear hn;have hb:(l.length != l.length)=false:=by simp
  go_enter func43,ntmps43;go_wp2
  go_loopg [5] l.length (fun q x wr=>∃ j:Nat,j<=l.length/\q=l.length-j/\Hid (l.take j=m.take j)/\x = .int .i64 j/\Bel w wr)
  case atStart=>exact ⟨0,by omega,rfl,rfl,rfl,Bel.refl w⟩
  case round =>
   obtain ⟨j,hj,rfl,HK,rfl,HB⟩:=hrel
   by_cases hlt:j<l.length
   .have hlt2:j<m.length:=by rw [<- HN.out];exact hlt
    obtain ⟨b',o',rfl,hb',hl1⟩:=(H1.out _ HB).at_ j hlt;obtain ⟨b2,o2,rfl,hb2,hl2⟩:=(H2.out _ HB).at_ j hlt2;go_wp2
    go_quiet (fail)
    go_wp2
    .have he:(l[j] != m[j]'(by rw [<- HN.out];exact hlt))=true:=by assumption
     go_ret;refine ⟨aA2 ?_,HB.drewN _⟩
     symm
     simp only [decide_eq_false_iff_not]
     rintro rfl;simp at he
    .have he:(l[j] != m[j]'(by rw [<- HN.out];exact hlt))=false:=by assumption
     go_roundg (l.length-(j+1))
     case rel =>
      refine ⟨j+1,by omega,rfl,?_,by go_num,HB.drewN _⟩
      show l.take (j+1)=m.take (j+1)
      rw [List.take_succ_eq_append_getElem hlt,List.take_succ_eq_append_getElem (by rw [<- HN.out];exact hlt),HK.out,show l[j]=m[j]'(by rw [<- HN.out];exact hlt) by simpa using he]
     case measure=>omega
   .go_wp2
    go_ret;exact ⟨aA2 (by symm;simp only [decide_eq_true_eq];exact aRh (k:=j) (by omega) (by rw [<- HN.out];omega) HK.out),HB⟩
 .have hb:(l.length != m.length)=true:=by simpa using hn
  have hb2:((l.length:Int) != (m.length:Int))=true:=by simp;omega
  go_enter func43,ntmps43;go_wp2;go_ret;exact ⟨aA2 (by symm;simp only [decide_eq_false_iff_not];rintro rfl;exact hn rfl),Bel.refl w⟩
end Go.Proofs.YtmifhmdghfbalaaGreatDoor

