/- Merged. -/
import Derived.Test.YtmifhmdghfbalaaGreatDoorZ44
set_option linter.unusedSimpArgs false
set_option linter.unnecessarySimpa false
set_option linter.unusedVariables false
set_option maxRecDepth 100000
set_option maxHeartbeats 4000000
open Go.Proofs.Tryz

namespace Go.Proofs.YtmifhmdghfbalaaGreatDoor
open Go.RowKit
theorem aQj (A:Option Addr) (ca:Nat) (a:List Int) (B:Option Addr) (cb:Nat) (b:List Int) (C:Option Addr) (cc:Nat) (c:List Int) (w:World) (h1:aB7 w A a.length a) (h2:aB7 w B b.length b) (h3:aB7 w C c.length c) (hT:aG1 w) :
  Calls prog 12 #[.slice A a.length ca,.slice B b.length cb,.slice C c.length cc] w fun e w'=>e = .returned (.bool true)/\Bel w w':=by
 have H1:=aA1 (fun w' (k:Bel w w')=>h1.keep k);have H2:=aA1 (fun w' (k:Bel w w')=>h2.keep k);have H3:=aA1 (fun w' (k:Bel w w')=>h3.keep k);have HT:=aA1 (fun w' (k:Bel w w')=>hT.keep k);have HB:=Bel.refl w;clear h1 h2 h3 hT
 by_cases la:a.length<=50
 .by_cases lb:b.length<=50
  .by_cases lc:c.length<=50
   .have da:decide ((50:Int)<(a.length:Int))=false:=decide_eq_false (by omega)
    have db:decide ((50:Int)<(b.length:Int))=false:=decide_eq_false (by omega)
    have dc:decide ((50:Int)<(c.length:Int))=false:=decide_eq_false (by omega)
    have da':decide (50<a.length)=false:=decide_eq_false (by omega)
    have db':decide (50<b.length)=false:=decide_eq_false (by omega)
    have dc':decide (50<c.length)=false:=decide_eq_false (by omega)
    obtain ⟨o1,o2,o3,o4⟩:=bGm a b c
    by_cases hn:a.length=b.length
    .have e1:((a.length:Int) != (b.length:Int))=false:=by simp;omega
     have e2:(a.length != b.length)=false:=by simpa using hn
     replace o3:=o3 hn;clear o4 hn;obtain ⟨x,hx⟩:∃ x,aBx a b=x:=⟨_,rfl⟩;obtain ⟨y,hy⟩:∃ y,aBx b a=y:=⟨_,rfl⟩;obtain ⟨u,hu⟩:∃ u,aBx b c=u:=⟨_,rfl⟩;obtain ⟨v,hv⟩:∃ v,aBx a c=v:=⟨_,rfl⟩;obtain ⟨s,hs⟩:∃ s,decide (a=b)=s:=⟨_,rfl⟩;rw [hx,hy] at o1 o3;rw [hx,hu,hv] at o2;rw [hs] at o3;have HX:=aA1 hx;have HY:=aA1 hy;have HU:=aA1 hu;have HV:=aA1 hv;have HS:=aA1 hs;clear hx hy hu hv hs;cases x with
     | true =>
      obtain rfl:y=false:=o1 rfl;obtain rfl:s=false:=by revert o3;cases s <;> decide
      cases u with
      | true =>
       obtain rfl:v=true:=o2 rfl rfl;clear o1 o2 o3;go_enter func12,ntmps12
       go_wp2_with (first
        | (go_at_call 42;go_loud (refine (aFe _ _ _ _ _ _ _ (by first | exact H1.out _ HB | exact H2.out _ HB | exact H3.out _ HB) (by first | exact H1.out _ HB | exact H2.out _ HB | exact H3.out _ HB) (by omega)).mono ?_;rintro e w' ⟨rfl,rfl⟩;first | rw [HX.out] | rw [HY.out] | rw [HU.out] | rw [HV.out]))
        | (go_at_call 37;refine (aAk _ (HT.out _ HB)).mono ?_;rintro e w' ⟨rfl,hb⟩;replace HB:=HB.trans hb;clear hb)
        | (go_at_call 43;refine (aGv A _ a B _ b _ (H1.out _ HB) (H2.out _ HB) (by omega)).mono ?_;rintro e w' ⟨rfl,hb⟩;rw [HS.out];replace HB:=HB.trans hb;clear hb)
        | (go_at_call 44;refine (aGc A _ a B _ b _ (H1.out _ HB) (H2.out _ HB) (by omega)).mono ?_;rintro e w' ⟨rfl,hb⟩;rw [HX.out];replace HB:=HB.trans hb;clear hb))
       go_ret;exact ⟨rfl,HB⟩
      | false =>
       clear o1 o2 o3;go_enter func12,ntmps12
       go_wp2_with (first
        | (go_at_call 42;go_loud (refine (aFe _ _ _ _ _ _ _ (by first | exact H1.out _ HB | exact H2.out _ HB | exact H3.out _ HB) (by first | exact H1.out _ HB | exact H2.out _ HB | exact H3.out _ HB) (by omega)).mono ?_;rintro e w' ⟨rfl,rfl⟩;first | rw [HX.out] | rw [HY.out] | rw [HU.out] | rw [HV.out]))
        | (go_at_call 37;refine (aAk _ (HT.out _ HB)).mono ?_;rintro e w' ⟨rfl,hb⟩;replace HB:=HB.trans hb;clear hb)
        | (go_at_call 43;refine (aGv A _ a B _ b _ (H1.out _ HB) (H2.out _ HB) (by omega)).mono ?_;rintro e w' ⟨rfl,hb⟩;rw [HS.out];replace HB:=HB.trans hb;clear hb)
        | (go_at_call 44;refine (aGc A _ a B _ b _ (H1.out _ HB) (H2.out _ HB) (by omega)).mono ?_;rintro e w' ⟨rfl,hb⟩;rw [HX.out];replace HB:=HB.trans hb;clear hb))
       go_ret;exact ⟨rfl,HB⟩
     | false =>
      cases y with
      | true =>
       obtain rfl:s=false:=by revert o3;cases s <;> decide
       clear o1 o2 o3;go_enter func12,ntmps12
       go_wp2_with (first
        | (go_at_call 42;go_loud (refine (aFe _ _ _ _ _ _ _ (by first | exact H1.out _ HB | exact H2.out _ HB | exact H3.out _ HB) (by first | exact H1.out _ HB | exact H2.out _ HB | exact H3.out _ HB) (by omega)).mono ?_;rintro e w' ⟨rfl,rfl⟩;first | rw [HX.out] | rw [HY.out] | rw [HU.out] | rw [HV.out]))
        | (go_at_call 37;refine (aAk _ (HT.out _ HB)).mono ?_;rintro e w' ⟨rfl,hb⟩;replace HB:=HB.trans hb;clear hb)
        | (go_at_call 43;refine (aGv A _ a B _ b _ (H1.out _ HB) (H2.out _ HB) (by omega)).mono ?_;rintro e w' ⟨rfl,hb⟩;rw [HS.out];replace HB:=HB.trans hb;clear hb)
        | (go_at_call 44;refine (aGc A _ a B _ b _ (H1.out _ HB) (H2.out _ HB) (by omega)).mono ?_;rintro e w' ⟨rfl,hb⟩;rw [HX.out];replace HB:=HB.trans hb;clear hb))
       go_ret;exact ⟨rfl,HB⟩
      | false =>
       obtain rfl:s=true:=by revert o3;cases s <;> decide
       clear o1 o2 o3;go_enter func12,ntmps12
       go_wp2_with (first
        | (go_at_call 42;go_loud (refine (aFe _ _ _ _ _ _ _ (by first | exact H1.out _ HB | exact H2.out _ HB | exact H3.out _ HB) (by first | exact H1.out _ HB | exact H2.out _ HB | exact H3.out _ HB) (by omega)).mono ?_;rintro e w' ⟨rfl,rfl⟩;first | rw [HX.out] | rw [HY.out] | rw [HU.out] | rw [HV.out]))
        | (go_at_call 37;refine (aAk _ (HT.out _ HB)).mono ?_;rintro e w' ⟨rfl,hb⟩;replace HB:=HB.trans hb;clear hb)
        | (go_at_call 43;refine (aGv A _ a B _ b _ (H1.out _ HB) (H2.out _ HB) (by omega)).mono ?_;rintro e w' ⟨rfl,hb⟩;rw [HS.out];replace HB:=HB.trans hb;clear hb)
        | (go_at_call 44;refine (aGc A _ a B _ b _ (H1.out _ HB) (H2.out _ HB) (by omega)).mono ?_;rintro e w' ⟨rfl,hb⟩;rw [HX.out];replace HB:=HB.trans hb;clear hb))
       go_ret;exact ⟨rfl,HB⟩
    .have e1:((a.length:Int) != (b.length:Int))=true:=by simp;omega
     have e2:(a.length != b.length)=true:=by simpa using hn
     obtain ⟨hx,hy⟩:=o4 hn;have HX:=aA1 hx;have HY:=aA1 hy;clear o1 o2 o3 o4 hx hy hn;go_enter func12,ntmps12
     go_wp2_with (first
      | (go_at_call 42;refine (aFe _ _ _ _ _ _ _ (by first | exact H1.out _ HB | exact H2.out _ HB | exact H3.out _ HB) (by first | exact H1.out _ HB | exact H2.out _ HB | exact H3.out _ HB) (by omega)).mono ?_;rintro e w' ⟨rfl,rfl⟩;first | rw [HX.out] | rw [HY.out])
      | (go_at_call 37;refine (aAk _ (HT.out _ HB)).mono ?_;rintro e w' ⟨rfl,hb⟩;replace HB:=HB.trans hb;clear hb))
     go_ret;exact ⟨rfl,HB⟩
   .have da:decide ((50:Int)<(a.length:Int))=false:=decide_eq_false (by omega)
    have db:decide ((50:Int)<(b.length:Int))=false:=decide_eq_false (by omega)
    have dc:decide ((50:Int)<(c.length:Int))=true:=decide_eq_true (by omega)
    go_enter func12,ntmps12
    go_wp2_with (go_at_call 37;refine (aAk _ (HT.out _ HB)).mono ?_;rintro e w' ⟨rfl,hb⟩;replace HB:=HB.trans hb;clear hb)
    go_ret;exact ⟨rfl,HB⟩
  .have da:decide ((50:Int)<(a.length:Int))=false:=decide_eq_false (by omega)
   have db:decide ((50:Int)<(b.length:Int))=true:=decide_eq_true (by omega)
   go_enter func12,ntmps12
   go_wp2_with (go_at_call 37;refine (aAk _ (HT.out _ HB)).mono ?_;rintro e w' ⟨rfl,hb⟩;replace HB:=HB.trans hb;clear hb)
   go_ret;exact ⟨rfl,HB⟩
 .have da:decide ((50:Int)<(a.length:Int))=true:=decide_eq_true (by omega)
  go_enter func12,ntmps12
  go_wp2_with (go_at_call 37;refine (aAk _ (HT.out _ HB)).mono ?_;rintro e w' ⟨rfl,hb⟩;replace HB:=HB.trans hb;clear hb)
  go_ret;exact ⟨rfl,HB⟩
end Go.Proofs.YtmifhmdghfbalaaGreatDoor

