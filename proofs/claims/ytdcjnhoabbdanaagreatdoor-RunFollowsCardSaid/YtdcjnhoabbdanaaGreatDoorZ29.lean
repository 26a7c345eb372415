/- Merged. -/
import Derived.Test.YtdcjnhoabbdanaaGreatDoorZ27
import Derived.Test.YtdcjnhoabbdanaaGreatDoorZ28
set_option linter.unusedSimpArgs false
set_option linter.unnecessarySimpa false
set_option linter.unusedVariables false
set_option maxRecDepth 100000
set_option maxHeartbeats 2000000
open Go.Proofs.Tryz

namespace Go.Proofs.YtdcjnhoabbdanaaGreatDoor
open Go.RowKit
theorem aMg {c d:aA7} {k:Nat} (h1:c.length<=k) (h2:d.length<=k) (h:c.take k=d.take k):c=d:=by rwa [List.take_of_length_le h1,List.take_of_length_le h2] at h
theorem aNo (v1 v2:Value) (c d:aA7) (w:World) (h1:aAy w v1 c) (h2:aAy w v2 d) (hl:c.length<=100) (hr:∀ r∈c,r.length<=1000) :
  Calls prog 20 #[v1,v2] w fun e w'=>e = .returned (.bool (decide (c=d)))/\Bel w w':=by
 obtain ⟨A,k,rfl,hR1,_,_⟩:=h1;obtain ⟨A2,k2,rfl,hR2,_,_⟩:=h2;have H1:=aA0 (fun w' (k:Bel w w')=>hR1.keep k);have H2:=aA0 (fun w' (k:Bel w w')=>hR2.keep k);have HR:=aA0 hr;clear hR1 hR2 hr
 by_cases hn:c.length=d.length
 .have HN:=aA0 hn
  rw [<- hn];clear hn;have hb:(c.length != c.length)=false:=by simp
  go_enter func20,ntmps20;go_wp2;clear hb
  go_loopg [5] c.length (fun q x wr=>∃ j:Nat,j<=c.length/\q=c.length-j/\Hid (c.take j=d.take j)/\x = .int .i64 j/\Bel w wr)
  case atStart=>exact ⟨0,by omega,rfl,rfl,rfl,Bel.refl w⟩
  case round =>
   obtain ⟨j,hj,rfl,HK,rfl,HB⟩:=hrel
   by_cases hlt:j<c.length
   .have hd0:decide (j<c.length)=true:=by simpa using hlt
    have hlt2:j<d.length:=by rw [<- HN.out];exact hlt
    obtain ⟨b,o,R,rc,rfl,hbl,q0,i0,_,_⟩:=(H1.out _ (Bel.refl w)).at_ j hlt;obtain ⟨b',o',R',rc',rfl,hbl',q0',i0',_,_⟩:=(H2.out _ (Bel.refl w)).at_ j hlt2;have I0:=aA0 (fun w' (k:Bel w w')=>i0.keep k);have I1:=aA0 (fun w' (k:Bel w w')=>i0'.keep k);have hle:=HR.out _ (List.getElem_mem hlt);have hcell:=aA0 (fun w' (kk:Bel w w')=>show w'.cell? ⟨b,o+j,none⟩=some (.slice R c[j].length rc)/\w'.cell? ⟨b',o'+j,none⟩=some (.slice R' d[j].length rc')/\b<w'.heap.size/\b' < w'.heap.size from ⟨(kk.cell hbl).trans q0,(kk.cell hbl').trans q0',Nat.lt_of_lt_of_le hbl kk.size,Nat.lt_of_lt_of_le hbl' kk.size⟩)
    clear i0 i0' q0 q0';cases hs:decide (c[j]=d[j]) with
    | true =>
     have HS:=aA0 (of_decide_eq_true hs);have HSB:=aA0 hs;clear hs
     go_wp2_with fail
     replace HB:=HB.drew
     go_region_held3 (fun w'=>w'.cell? ⟨b,o+j,none⟩=some (.slice R c[j].length rc)/\w'.cell? ⟨b',o'+j,none⟩=some (.slice R' d[j].length rc')/\b<w'.heap.size/\b' < w'.heap.size) (exact hcell.out _ HB) (first
      | (go_simp;go_at_call 47;refine (aLq _ _ c[j] _ _ d[j] _ (I0.out _ HB) (I1.out _ HB) (by omega)).mono ?_;rintro e w2 ⟨rfl,hb⟩;rw [HSB.out];replace HB:=HB.trans hb;clear hb))
     go_wp2_with fail
     go_roundg (c.length-(j+1))
     case rel =>
      refine ⟨j+1,by omega,rfl,?_,by go_num,HB⟩
      show c.take (j+1)=d.take (j+1)
      rw [List.take_succ_eq_append_getElem hlt,List.take_succ_eq_append_getElem hlt2,HK.out,HS.out]
     case measure=>omega
    | false =>
     have HS:=aA0 (of_decide_eq_false hs);have HSB:=aA0 hs;clear hs
     go_wp2_with fail
     replace HB:=HB.drew
     go_region_held3 (fun w'=>w'.cell? ⟨b,o+j,none⟩=some (.slice R c[j].length rc)/\w'.cell? ⟨b',o'+j,none⟩=some (.slice R' d[j].length rc')/\b<w'.heap.size/\b' < w'.heap.size) (exact hcell.out _ HB) (first
      | (go_simp;go_at_call 47;refine (aLq _ _ c[j] _ _ d[j] _ (I0.out _ HB) (I1.out _ HB) (by omega)).mono ?_;rintro e w2 ⟨rfl,hb⟩;rw [HSB.out];replace HB:=HB.trans hb;clear hb))
     go_wp2_with fail
     go_ret;refine ⟨aA2 ?_,HB⟩
     symm
     simp only [decide_eq_false_iff_not]
     rintro rfl;exact HS.out rfl
   .have hd0:decide (j<c.length)=false:=by simpa using hlt
    go_wp2_with fail
    go_ret;exact ⟨aA2 (by symm;simp only [decide_eq_true_eq];exact aMg (k:=j) (by omega) (by rw [<- HN.out];omega) HK.out),HB⟩
 .have hb:(c.length != d.length)=true:=by simpa using hn
  have hb2:((c.length:Int) != (d.length:Int))=true:=by simp;omega
  go_enter func20,ntmps20;go_wp2;go_ret;exact ⟨aA2 (by symm;simp only [decide_eq_false_iff_not];rintro rfl;exact hn rfl),Bel.refl w⟩
theorem aY4 {p:Prg} {g:Graph} {c:aA7} {T:Nat} (hm:aCv p g c=0) (h0:T≠0) (hw:aBn T (aAj p g c)=true):aY3 p g c T=(aBe p g c T,0):=by
 unfold aY3;rw [if_neg (by simpa using hm),if_neg (by rw [hw];simpa using h0)]
theorem aMp {p:Prg} {g:Graph} {c:aA7} (hm:aCv p g c=0):aM4 p g c=aAj p g c:=by
 unfold aM4;rw [if_neg (by simpa using hm)]
attribute [local go_sem] Oper.semAt_some
end Go.Proofs.YtdcjnhoabbdanaaGreatDoor

namespace Go.Proofs.YtdcjnhoabbdanaaGreatDoor
open Go.RowKit
attribute [local go_sem] Oper.semAt_some
theorem Agr.of_bel {E:Nat->Prop} {A B C:World} (h:Agr E B C) (k:Bel A B):Agr E A C :=
 ⟨h.os.trans k.os,h.tape.trans k.tape,h.output.trans k.output,Nat.le_trans k.size h.size,fun i hi hn=>(h.block i (Nat.lt_of_lt_of_le hi k.size) hn).trans (k.block i hi)⟩
theorem bB8.inRound {α:Type} {F:Fence} {n:Nat} {P:Program} {g:Nat} {lb:Array Value} {encs:α->Array Value} {Bs Rs:Nat->Prop} {S:List α} {w:World} (l:Nat) (h:bB8 F n P g lb encs Bs Rs S w):bB8 (F.inRound l) n P g lb encs Bs Rs S w:=h
end Go.Proofs.YtdcjnhoabbdanaaGreatDoor

namespace Go.Proofs.YtdcjnhoabbdanaaGreatDoor
open Go.RowKit
theorem aOu {w:World} {g base n size:Nat} {cs:Array Value} {e:TypeId} (h:Blk w g cs e) (hs:cs.size=n*size) (hb:base<=g) (hm:n<=maxLen):w.ownsRow base e size (.slice (some ⟨g,0,none⟩) n n) n cs.toList :=
 ⟨by simpa using hs,.inr ⟨g,n,cs,rfl,hb,h,Nat.le_refl _,hm,hs,List.take_of_length_le (by rw [Array.length_toList,hs];exact Nat.le_refl _)⟩⟩
end Go.Proofs.YtdcjnhoabbdanaaGreatDoor

