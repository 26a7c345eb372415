/- Merged. -/
import Derived.Test.YtdcjnhoabbdanaaGreatDoorZ05
import Derived.Test.YtdcjnhoabbdanaaGreatDoorZ04
set_option linter.unusedSimpArgs false
set_option linter.unnecessarySimpa false
set_option linter.unusedVariables false
set_option maxRecDepth 100000
set_option maxHeartbeats 1000000
open Go.Proofs.Tryz

namespace Go.Proofs.YtdcjnhoabbdanaaGreatDoor
open Go.RowKit
theorem aHo (A:Option Addr) (n c:Nat) (es:List Term) (w:World) (h:aAw w A n es) (hl:n<=1000000) :
  Calls prog 190 #[.slice A n c] w fun e w'=>e = .returned (.int .i64 (aD9 es))/\Bel w w':=by
 have H:=aA0 h;obtain rfl:=h.1;clear h
 by_cases he:endF es 0=es.length
 .have HG:=aA0 (aTm es he)
  have HA:=aA0 (aKo es he);have h1:aV9 es=true:=by rw [aKg];simpa using he
  clear he;go_enter func190,ntmps190
  go_wp2_with (first
   | (go_at_call 189;refine (aHk _ _ _ es _ H.out hl).mono ?_;rintro e w1 ⟨rfl,rfl⟩)
   | (go_at_call 211;refine (aJv _ _ _ es _ H.out hl HA.out).mono ?_;rintro e w1 ⟨rfl,hb⟩))
  go_ret;exact ⟨aA4 (by rw [HG.out]),hb⟩
 .have HG:Hid (aD9 es=0):=by
   show aD9 es=0
   unfold aD9 aDi;rw [if_neg he]
  have h1:aV9 es=false:=by rw [aKg];simpa using he
  clear he;go_enter func190,ntmps190
  go_wp2_with (go_at_call 189;refine (aHk _ _ _ es _ H.out hl).mono ?_;rintro e w1 ⟨rfl,rfl⟩)
  go_ret;exact ⟨aA4 HG.out.symm,Bel.refl _⟩
theorem aN2 (A:Option Addr) (n c:Nat) (es:List Term) (w:World) (h:aAw w A n es) (hl:n<=1000000) :
  Calls prog 191 #[.slice A n c] w fun e w'=>e = .returned (.int .i64 (aH5 es))/\Bel w w':=by
 have H:=aA0 h;obtain rfl:=h.1;clear h
 by_cases he:endF es 0=es.length
 .have HG:=aA0 (aTm es he)
  have HA:=aA0 (aKo es he);have h1:aV9 es=true:=by rw [aKg];simpa using he
  clear he;go_enter func191,ntmps191
  go_wp2_with (first
   | (go_at_call 189;refine (aHk _ _ _ es _ H.out hl).mono ?_;rintro e w1 ⟨rfl,rfl⟩)
   | (go_at_call 211;refine (aJv _ _ _ es _ H.out hl HA.out).mono ?_;rintro e w1 ⟨rfl,hb⟩))
  go_ret;exact ⟨aA4 (by rw [HG.out]),hb⟩
 .have HG:Hid (aH5 es=0):=by
   show aH5 es=0
   unfold aH5 aDi;rw [if_neg he]
  have h1:aV9 es=false:=by rw [aKg];simpa using he
  clear he;go_enter func191,ntmps191
  go_wp2_with (go_at_call 189;refine (aHk _ _ _ es _ H.out hl).mono ?_;rintro e w1 ⟨rfl,rfl⟩)
  go_ret;exact ⟨aA4 HG.out.symm,Bel.refl _⟩
theorem aFp (A:Option Addr) (n c:Nat) (es:List Term) (vars:Int) (w:World) (h:aAw w A n es) (hl:n<=1000000) :
  Calls prog 169 #[.slice A n c,.int .i64 vars] w fun e w'=>e = .returned (.bool (aAy es vars))/\Bel w w':=by
 obtain rfl:=h.1;have H:=aA0 h;clear h
 by_cases h200:200<es.length
 .have HF:Hid (aAy es vars=false):=by
   show aAy es vars=false
   unfold aAy;rw [show decide (es.length<=200)=false by simp;omega];rfl
  have hd:decide (200<es.length)=true:=by simpa using h200
  go_enter func169,ntmps169;go_wp2;go_ret;exact ⟨aA2 HF.out.symm,Bel.refl _⟩
 .have hd:decide (200<es.length)=false:=by simpa using h200
  cases ho:aV9 es with
  | false =>
   have HF:Hid (aAy es vars=false):=by
    show aAy es vars=false
    unfold aAy;rw [aKg] at ho;rw [ho];simp
   go_enter func169,ntmps169
   go_wp2_with (go_at_call 189;refine (aHk _ _ _ es _ H.out hl).mono ?_;rintro e w' ⟨rfl,rfl⟩)
   go_ret;exact ⟨aA2 HF.out.symm,Bel.refl _⟩
  | true =>
   have HF:Hid (aAy es vars=(es.all (aFf · vars)&&decide (aD9 es<=24)&&decide (aH5 es<=2))):=by
    show aAy es vars=_
    unfold aAy;rw [aKg] at ho;rw [show decide (es.length<=200)=true by simp;omega,ho]
    rfl
   by_cases h24:aD9 es<=24
   .have hd3:decide (24<aD9 es)=false:=by simpa using h24
    by_cases h2:aH5 es<=2
    .have hd4:decide (2<aH5 es)=false:=by simpa using h2
     have HF2:Hid (aAy es vars=es.all (aFf · vars)):=by
      show aAy es vars=_
      rw [HF.out,show decide (aD9 es<=24)=true by simpa using h24,show decide (aH5 es<=2)=true by simpa using h2];simp
     clear HF;go_enter func169,ntmps169
     go_wp2_with (first
      | (go_at_call 189;refine (aHk _ _ _ es _ H.out hl).mono ?_;rintro e w' ⟨rfl,rfl⟩)
      | (go_at_call 190;refine (aHo _ _ _ es _ H.out hl).mono ?_;rintro e w2 ⟨rfl,hb2⟩)
      | (go_at_call 191;refine (aN2 _ _ _ es _ (H.out.keep hb2) hl).mono ?_;rintro e w3 ⟨rfl,hb3⟩))
     have hb4:=hb2.trans hb3;clear hd3 hd4 h24 h2 ho
     go_loopg [5] es.length (fun g iv wr=>∃ k:Nat,k+g=es.length/\iv = .int .i64 k/\Hid (aAy es vars=(es.drop k).all (aFf · vars))/\Bel w wr)
     case atStart=>exact ⟨0,by omega,rfl,HF2,hb4⟩
     case round =>
      obtain ⟨k,hk,rfl,HK,hbel⟩:=hrel
      by_cases hlt:k<es.length
      .obtain ⟨b,o,rfl,hb,hc1,hc2⟩:=(H.out.keep hbel).at_ k hlt
       have hstep:Hid ((es.drop k).all (aFf · vars)=(aFf es[k] vars&&(es.drop (k+1)).all (aFf · vars))):=by
        show (es.drop k).all (aFf · vars)=_
        rw [List.drop_eq_getElem_cons hlt];rfl
       cases harg:aFf es[k] vars with
       | true =>
        go_wp2_with (go_at_call 192;refine (aHm es[k] _ _).mono ?_;rintro e w2 ⟨rfl,hb2⟩;rw [harg])
        go_roundg (gk-1)
        case rel=>exact ⟨k+1,by omega,by go_num,by show _=_;rw [HK.out,hstep.out,harg];rfl,hbel.trans hb2⟩
        case measure=>omega
       | false =>
        go_wp2_with (go_at_call 192;refine (aHm es[k] _ _).mono ?_;rintro e w2 ⟨rfl,hb2⟩;rw [harg])
        go_ret;refine ⟨aA2 ?_,hbel.trans hb2⟩
        rw [HK.out,hstep.out,harg];rfl
      .go_wp2_with fail
       go_ret;refine ⟨aA2 ?_,hbel⟩
       rw [HK.out,List.drop_eq_nil_of_le (by omega)];rfl
    .have hd4:decide (2<aH5 es)=true:=by simpa using h2
     have HF2:Hid (aAy es vars=false):=by
      show aAy es vars=_
      rw [HF.out,show decide (aH5 es<=2)=false by simpa using h2];simp
     go_enter func169,ntmps169
     go_wp2_with (first
      | (go_at_call 189;refine (aHk _ _ _ es _ H.out hl).mono ?_;rintro e w' ⟨rfl,rfl⟩)
      | (go_at_call 190;refine (aHo _ _ _ es _ H.out hl).mono ?_;rintro e w2 ⟨rfl,hb2⟩)
      | (go_at_call 191;refine (aN2 _ _ _ es _ (H.out.keep hb2) hl).mono ?_;rintro e w3 ⟨rfl,hb3⟩))
     go_ret;exact ⟨aA2 HF2.out.symm,hb2.trans hb3⟩
   .have hd3:decide (24<aD9 es)=true:=by simpa using h24
    have HF2:Hid (aAy es vars=false):=by
     show aAy es vars=_
     rw [HF.out,show decide (aD9 es<=24)=false by simpa using h24];simp
    go_enter func169,ntmps169
    go_wp2_with (first
     | (go_at_call 189;refine (aHk _ _ _ es _ H.out hl).mono ?_;rintro e w' ⟨rfl,rfl⟩)
     | (go_at_call 190;refine (aHo _ _ _ es _ H.out hl).mono ?_;rintro e w2 ⟨rfl,hb2⟩))
    go_ret;exact ⟨aA2 HF2.out.symm,hb2⟩
end Go.Proofs.YtdcjnhoabbdanaaGreatDoor

