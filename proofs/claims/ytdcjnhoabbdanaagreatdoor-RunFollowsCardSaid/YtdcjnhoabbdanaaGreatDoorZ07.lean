/- Merged. -/
import Derived.Test.YtdcjnhoabbdanaaGreatDoorZ05
import Derived.Test.YtdcjnhoabbdanaaGreatDoorZ04
set_option linter.unusedSimpArgs false
set_option linter.unnecessarySimpa false
set_option linter.unusedVariables false
set_option maxRecDepth 100000
set_option maxHeartbeats 1000000
open Go.Proofs.Tryz

namespace Go.Proofs.YtdcjnhoabbdanaaGreatDoor
open Go.RowKit
theorem aI6 (A:Option Addr) (n c:Nat) (es:List Term) (w:World) (h:aB0 w A n es) (hl:n<=1000000) :
  Calls prog 190 #[.slice A n c] w fun e w'=>e = .returned (.int .i64 (aDh es))/\Bel w w':=by
 have H:=aA0 h;obtain rfl:=h.1;clear h
 by_cases he:endF es 0=es.length
 .have HG:=aA0 (aUf es he)
  have HA:=aA0 (aL7 es he);have h1:aW4 es=true:=by rw [aL0];simpa using he
  clear he;go_enter func190,ntmps190
  go_wp2_with (first
   | (go_at_call 189;refine (aI3 _ _ _ es _ H.out hl).mono ?_;rintro e w1 ⟨rfl,rfl⟩)
   | (go_at_call 211;refine (aKi _ _ _ es _ H.out hl HA.out).mono ?_;rintro e w1 ⟨rfl,hb⟩))
  go_ret;exact ⟨aA5 (by rw [HG.out]),hb⟩
 .have HG:Hid (aDh es=0):=by
   show aDh es=0
   unfold aDh aDp;rw [if_neg he]
  have h1:aW4 es=false:=by rw [aL0];simpa using he
  clear he;go_enter func190,ntmps190
  go_wp2_with (go_at_call 189;refine (aI3 _ _ _ es _ H.out hl).mono ?_;rintro e w1 ⟨rfl,rfl⟩)
  go_ret;exact ⟨aA5 HG.out.symm,Bel.refl _⟩
theorem aNm (A:Option Addr) (n c:Nat) (es:List Term) (w:World) (h:aB0 w A n es) (hl:n<=1000000) :
  Calls prog 191 #[.slice A n c] w fun e w'=>e = .returned (.int .i64 (aHp es))/\Bel w w':=by
 have H:=aA0 h;obtain rfl:=h.1;clear h
 by_cases he:endF es 0=es.length
 .have HG:=aA0 (aUf es he)
  have HA:=aA0 (aL7 es he);have h1:aW4 es=true:=by rw [aL0];simpa using he
  clear he;go_enter func191,ntmps191
  go_wp2_with (first
   | (go_at_call 189;refine (aI3 _ _ _ es _ H.out hl).mono ?_;rintro e w1 ⟨rfl,rfl⟩)
   | (go_at_call 211;refine (aKi _ _ _ es _ H.out hl HA.out).mono ?_;rintro e w1 ⟨rfl,hb⟩))
  go_ret;exact ⟨aA5 (by rw [HG.out]),hb⟩
 .have HG:Hid (aHp es=0):=by
   show aHp es=0
   unfold aHp aDp;rw [if_neg he]
  have h1:aW4 es=false:=by rw [aL0];simpa using he
  clear he;go_enter func191,ntmps191
  go_wp2_with (go_at_call 189;refine (aI3 _ _ _ es _ H.out hl).mono ?_;rintro e w1 ⟨rfl,rfl⟩)
  go_ret;exact ⟨aA5 HG.out.symm,Bel.refl _⟩
theorem aG8 (A:Option Addr) (n c:Nat) (es:List Term) (vars:Int) (w:World) (h:aB0 w A n es) (hl:n<=1000000) :
  Calls prog 169 #[.slice A n c,.int .i64 vars] w fun e w'=>e = .returned (.bool (aB2 es vars))/\Bel w w':=by
 obtain rfl:=h.1;have H:=aA0 h;clear h
 by_cases h200:200<es.length
 .have HF:Hid (aB2 es vars=false):=by
   show aB2 es vars=false
   unfold aB2;rw [show decide (es.length<=200)=false by simp;omega];rfl
  have hd:decide (200<es.length)=true:=by simpa using h200
  go_enter func169,ntmps169;go_wp2;go_ret;exact ⟨aA2 HF.out.symm,Bel.refl _⟩
 .have hd:decide (200<es.length)=false:=by simpa using h200
  cases ho:aW4 es with
  | false =>
   have HF:Hid (aB2 es vars=false):=by
    show aB2 es vars=false
    unfold aB2;rw [aL0] at ho;rw [ho];simp
   go_enter func169,ntmps169
   go_wp2_with (go_at_call 189;refine (aI3 _ _ _ es _ H.out hl).mono ?_;rintro e w' ⟨rfl,rfl⟩)
   go_ret;exact ⟨aA2 HF.out.symm,Bel.refl _⟩
  | true =>
   have HF:Hid (aB2 es vars=(es.all (aFx · vars)&&decide (aDh es<=24)&&decide (aHp es<=2))):=by
    show aB2 es vars=_
    unfold aB2;rw [aL0] at ho;rw [show decide (es.length<=200)=true by simp;omega,ho]
    rfl
   by_cases h24:aDh es<=24
   .have hd3:decide (24<aDh es)=false:=by simpa using h24
    by_cases h2:aHp es<=2
    .have hd4:decide (2<aHp es)=false:=by simpa using h2
     have HF2:Hid (aB2 es vars=es.all (aFx · vars)):=by
      show aB2 es vars=_
      rw [HF.out,show decide (aDh es<=24)=true by simpa using h24,show decide (aHp es<=2)=true by simpa using h2];simp
     clear HF;go_enter func169,ntmps169
     go_wp2_with (first
      | (go_at_call 189;refine (aI3 _ _ _ es _ H.out hl).mono ?_;rintro e w' ⟨rfl,rfl⟩)
      | (go_at_call 190;refine (aI6 _ _ _ es _ H.out hl).mono ?_;rintro e w2 ⟨rfl,hb2⟩)
      | (go_at_call 191;refine (aNm _ _ _ es _ (H.out.keep hb2) hl).mono ?_;rintro e w3 ⟨rfl,hb3⟩))
     have hb4:=hb2.trans hb3;clear hd3 hd4 h24 h2 ho
     go_loopg [5] es.length (fun g iv wr=>∃ k:Nat,k+g=es.length/\iv = .int .i64 k/\Hid (aB2 es vars=(es.drop k).all (aFx · vars))/\Bel w wr)
     case atStart=>exact ⟨0,by omega,rfl,HF2,hb4⟩
     case round =>
      obtain ⟨k,hk,rfl,HK,hbel⟩:=hrel
      by_cases hlt:k<es.length
      .obtain ⟨b,o,rfl,hb,hc1,hc2⟩:=(H.out.keep hbel).at_ k hlt
       have hstep:Hid ((es.drop k).all (aFx · vars)=(aFx es[k] vars&&(es.drop (k+1)).all (aFx · vars))):=by
        show (es.drop k).all (aFx · vars)=_
        rw [List.drop_eq_getElem_cons hlt];rfl
       cases harg:aFx es[k] vars with
       | true =>
        go_wp2_with (go_at_call 192;refine (aI5 es[k] _ _).mono ?_;rintro e w2 ⟨rfl,hb2⟩;rw [harg])
        go_roundg (gk-1)
        case rel=>exact ⟨k+1,by omega,by go_num,by show _=_;rw [HK.out,hstep.out,harg];rfl,hbel.trans hb2⟩
        case measure=>omega
       | false =>
        go_wp2_with (go_at_call 192;refine (aI5 es[k] _ _).mono ?_;rintro e w2 ⟨rfl,hb2⟩;rw [harg])
        go_ret;refine ⟨aA2 ?_,hbel.trans hb2⟩
        rw [HK.out,hstep.out,harg];rfl
      .go_wp2_with fail
       go_ret;refine ⟨aA2 ?_,hbel⟩
       rw [HK.out,List.drop_eq_nil_of_le (by omega)];rfl
    .have hd4:decide (2<aHp es)=true:=by simpa using h2
     have HF2:Hid (aB2 es vars=false):=by
      show aB2 es vars=_
      rw [HF.out,show decide (aHp es<=2)=false by simpa using h2];simp
     go_enter func169,ntmps169
     go_wp2_with (first
      | (go_at_call 189;refine (aI3 _ _ _ es _ H.out hl).mono ?_;rintro e w' ⟨rfl,rfl⟩)
      | (go_at_call 190;refine (aI6 _ _ _ es _ H.out hl).mono ?_;rintro e w2 ⟨rfl,hb2⟩)
      | (go_at_call 191;refine (aNm _ _ _ es _ (H.out.keep hb2) hl).mono ?_;rintro e w3 ⟨rfl,hb3⟩))
     go_ret;exact ⟨aA2 HF2.out.symm,hb2.trans hb3⟩
   .have hd3:decide (24<aDh es)=true:=by simpa using h24
    have HF2:Hid (aB2 es vars=false):=by
     show aB2 es vars=_
     rw [HF.out,show decide (aDh es<=24)=false by simpa using h24];simp
    go_enter func169,ntmps169
    go_wp2_with (first
     | (go_at_call 189;refine (aI3 _ _ _ es _ H.out hl).mono ?_;rintro e w' ⟨rfl,rfl⟩)
     | (go_at_call 190;refine (aI6 _ _ _ es _ H.out hl).mono ?_;rintro e w2 ⟨rfl,hb2⟩))
    go_ret;exact ⟨aA2 HF2.out.symm,hb2⟩
end Go.Proofs.YtdcjnhoabbdanaaGreatDoor

