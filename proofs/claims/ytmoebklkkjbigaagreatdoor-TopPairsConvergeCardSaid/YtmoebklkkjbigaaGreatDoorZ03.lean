/- Merged. -/
import Derived.Test.YtmoebklkkjbigaaGreatDoorZ02
import Derived.Test.YtmoebklkkjbigaaGreatDoorZ01
set_option linter.unusedSimpArgs false
set_option linter.unnecessarySimpa false
set_option linter.unusedVariables false
set_option maxRecDepth 100000
set_option maxHeartbeats 400000
open Go.Proofs.Tryz

namespace Go.Proofs.YtmoebklkkjbigaaGreatDoor
open Go.RowKit
def aH9 (w:World) (b o:Nat) (t:Term):Prop:=w.cell? ⟨b,o,none⟩=some (.int .i64 t.op)/\w.cell? ⟨b,o+1,none⟩=some (.int .i64 t.arg)
theorem aH9.keeps:aNi aH9:=fun _ _ _ _ _ k hb h=>⟨(k.cell hb).trans h.1,(k.cell hb).trans h.2⟩
def aCd:=aAc 2 aH9
theorem aCd.keep {w w':World} {A:Option Addr} {n:Nat} {es:List Term} (h:aCd w A n es) (k:Bel w w'):aCd w' A n es:=aAc.keep aH9.keeps h k
theorem aCd.at_ {w:World} {A:Option Addr} {n:Nat} {es:List Term} (h:aCd w A n es) (k:Nat) (hk:k<es.length) :
  ∃ b o,A=some ⟨b,o,none⟩/\b<w.heap.size/\w.cell? ⟨b,o+k*2,none⟩=some (.int .i64 es[k].op)/\w.cell? ⟨b,o+k*2+1,none⟩=some (.int .i64 es[k].arg):=aAc.at_ h k hk
def aBt (t:Term):List Value:=[.int .i64 t.op,.int .i64 t.arg]
theorem aHo (es:List Term) (i:Nat) (t:Term) (h:es[i]?=some t):(es.flatMap aBt)[i*2]?=some (.int .i64 t.op)/\(es.flatMap aBt)[i*2+1]?=some (.int .i64 t.arg):=by
 induction es generalizing i with
 | nil=>simp at h
 | cons x es ih =>
  cases i with
  | zero=>simp at h;subst h;simp [aBt]
  | succ i =>
   have:=ih i (by simpa using h)
   have e:(i+1)*2=i*2+1+1:=by omega
   rw [e];simpa [aBt] using this
theorem aGa (es:List Term):(es.flatMap aBt).length=es.length*2:=by
 induction es with
 | nil=>rfl
 | cons x es ih=>simp [ih,aBt];omega
theorem aW2 (es:List Term):∀ u∈es.flatMap aBt,u.oneCell'=true:=by
 intro u hu
 simp only [List.mem_flatMap,aBt] at hu
 obtain ⟨t,_,h⟩:=hu;simp at h
 rcases h with h | h <;> subst h <;> rfl
theorem aRk {w:World} {base:Nat} {e:TypeId} {A:Option Addr} {n c:Nat} {es:List Term} (h:w.ownsRow base e 2 (.slice A n c) n (es.flatMap aBt)):aCd w A n es:=by
 refine ⟨by have:=h.1;rw [aGa] at this;omega,fun i x hx=>?_⟩
 obtain ⟨h1,h2⟩:=aHo es i x hx;obtain ⟨g,e1,_,e3,e4,_⟩:=aAn h h1;obtain ⟨g',e1',_,_,e4',_⟩:=aAn h h2;rw [e1] at e1';injection e1' with e1'
 injection e1' with e1'
 subst e1';exact ⟨g,0,e1,e3,by simpa using e4,by simpa using e4'⟩
theorem aCd.cells {w:World} {A:Option Addr} {n:Nat} {es:List Term} (h:aCd w A n es):aWc w 2 A n (es.flatMap aBt):=by
 refine ⟨by rw [aGa,h.1],fun j u hu=>?_⟩
 have hlt:j<es.length*2:=by
  have:=(List.getElem?_eq_some_iff.1 hu).1;rw [aGa] at this;exact this
 have hi:j / 2<es.length:=by omega
 obtain ⟨b,o,rfl,_,h1,h2⟩:=h.at_ (j / 2) hi;obtain ⟨g1,g2⟩:=aHo es (j / 2) es[j / 2] (List.getElem?_eq_getElem hi);refine ⟨b,o,rfl,?_⟩
 rcases Nat.mod_two_eq_zero_or_one j with hm | hm
 .have e:j=j / 2*2:=by omega
  rw [<- e] at h1 g1;rw [g1] at hu;rw [h1];exact hu
 .have e:j=j / 2*2+1:=by omega
  have e2:o+j / 2*2+1=o+j:=by omega
  rw [<- e] at g2;rw [e2] at h2;rw [g2] at hu;rw [h2];exact hu
theorem aJj (op:Int) (w:World) :
  Calls prog 168 #[.int .i64 op] w fun e w'=>e = .returned (.int .i64 (aB2 op))/\w=w':=by
 go_enter func168,ntmps168;go_wp2
 all_goals (go_ret;refine ⟨aA9 ?_,rfl⟩;unfold aB2;repeat' split) <;> omega
theorem aIh (op:Int) (w:World) :
  Calls prog 172 #[.int .i64 op] w fun e w'=>e = .returned (.bool (aAl op))/\w=w':=by
 go_enter func172,ntmps172;go_wp2
 all_goals (go_ret;refine ⟨aA1 ?_,rfl⟩;unfold aAl;rw [Bool.eq_iff_iff];simp) <;> omega
theorem aQs (A:Option Addr) (n c:Nat) (es:List Term) (p:Int) (w:World) (h:aCd w A n es) (hl:n<=1000000) :
  Calls prog 144 #[.slice A n c,.int .i64 p] w fun e w'=>e = .returned (.int .i64 (endF es p))/\w=w':=by
 obtain rfl:=h.1;have H:=aA0 h;clear h
 by_cases hp:p<0∨es.length<=p
 .have hfin:endF es p = -1:=by unfold endF;rw [if_pos hp]
  rw [hfin];clear hfin;go_enter func144,ntmps144
  rcases hp with hp | hp
  .go_wp2
   go_ret;exact ⟨rfl,rfl⟩
  .have h0:0<=p:=by omega
   go_wp2;go_ret;exact ⟨rfl,rfl⟩
 .have h1:0<=p:=by omega
  have h2:p<es.length:=by omega
  have hfin:endF es p=aEh es p.toNat 1:=by unfold endF;rw [if_neg hp]
  rw [hfin];clear hfin hp;obtain ⟨q,rfl⟩:=Int.eq_ofNat_of_zero_le h1;rw [Int.toNat_natCast];generalize hT:aEh es q 1=T;have hd1:decide ((q:Int)<0)=false:=by simp
  have hd2:decide (es.length<=q)=false:=by simp;omega
  have HT:=aA0 hT;clear hT;go_enter func144,ntmps144;go_wp2
  go_loopg [1,5] (es.length-q) (fun g a m wr=>∃ (k:Nat) (z:Int),k<=es.length/\g=es.length-k/\1<=z/\z<=1+2*k/\Hid (aEh es k z=T)/\a = .int .i64 k/\m = .int .i64 z/\w=wr)
  case atStart=>exact ⟨q,1,by omega,rfl,by omega,by omega,HT,rfl,rfl,rfl⟩
  case round =>
   obtain ⟨k,z,hk,rfl,hz1,hz2,HK,rfl,rfl,rfl⟩:=hrel
   by_cases hlt:k<es.length
   .obtain ⟨b,o,rfl,hb,hc1,hc2⟩:=H.out.at_ k hlt
    have ha:=bC7 es[k].op;obtain ⟨ha1,ha2⟩:=ha
    go_wp2_with (go_at_call 168;refine (aJj _ _).mono ?_;rintro e w' ⟨rfl,rfl⟩)
    .go_ret
     exact ⟨aA9 (by rw [<- HK.out,bG1 hlt (by assumption)]),rfl⟩
    .have hh:(z+(aB2 es[k].op-1)==0)=true:=by assumption
     go_ret;refine ⟨aA9 ?_,rfl⟩
     rw [<- HK.out,bG2 hlt (by assumption) (by simpa using hh)]
    .have hh:(z+(aB2 es[k].op-1)==0)=false:=by assumption
     have hh':z+(aB2 es[k].op-1)≠0:=by simpa using hh
     go_roundg (es.length-(k+1))
     case rel=>exact ⟨k+1,z+(aB2 es[k].op-1),by omega,rfl,by omega,by omega,by have:=HK.out;rw [bBn hlt (by assumption) hh'] at this;exact this,by go_num,rfl,rfl⟩
     case measure=>omega
   .go_wp2
    go_ret;exact ⟨aA9 (by rw [<- HK.out,bBm (by omega)]),rfl⟩
theorem aOy (t:Term) (vars:Int) (w:World) :
  Calls prog 145 #[.agg #[.int .i64 t.op,.int .i64 t.arg],.int .i64 vars] w fun e w'=>e = .returned (.bool (aM3 t vars))/\Bel w w':=by
 obtain ⟨op,arg⟩:=t;go_enter func145,ntmps145;go_wp2
 all_goals
  go_ret;refine ⟨aA1 ?_,(Bel.refl _).alloc _⟩
  simp only [beq_iff_eq,beq_eq_false_iff_ne,ne_eq] at *
  unfold aM3;rw [Bool.eq_iff_iff];simp only []
  repeat' split
  all_goals first | omega | (simp;done) | (simp;omega)
theorem aX5 (op g:Int) (w:World) (h0:0<=g) (h1:g<=1000000) :
  Calls prog 170 #[.int .i64 op,.int .i64 g] w fun e w'=>e = .returned (.int .i64 (aGf op g))/\w=w':=by
 go_enter func170,ntmps170;go_wp2;go_ret;exact ⟨rfl,rfl⟩
theorem bAw (op g:Int) (w:World) (h0:0<=g) (h1:g<=1000000) :
  Calls prog 171 #[.int .i64 op,.int .i64 g] w fun e w'=>e = .returned (.int .i64 (aGz op g))/\w=w':=by
 unfold aGz;cases ha:aAl op with
 | true =>
  go_enter func171,ntmps171
  go_wp2_with (go_at_call 172;refine (aIh _ _).mono ?_;rintro e w' ⟨rfl,rfl⟩)
  go_ret;exact ⟨rfl,rfl⟩
 | false =>
  go_enter func171,ntmps171
  go_wp2_with (go_at_call 172;refine (aIh _ _).mono ?_;rintro e w' ⟨rfl,rfl⟩)
  go_ret;exact ⟨rfl,rfl⟩
end Go.Proofs.YtmoebklkkjbigaaGreatDoor

