/- Merged. -/
import Derived.Test.YtdcjnhoabbdanaaGreatDoorZ23
import Derived.Test.YtdcjnhoabbdanaaGreatDoorZ22
set_option linter.unusedSimpArgs false
set_option linter.unnecessarySimpa false
set_option linter.unusedVariables false
set_option maxRecDepth 100000
set_option maxHeartbeats 2000000
open Go.Proofs.Tryz

namespace Go.Proofs.YtdcjnhoabbdanaaGreatDoor
open Go.RowKit
theorem aMw {c d:aA6} {k:Nat} (h1:c.length<=k) (h2:d.length<=k) (h:c.take k=d.take k):c=d:=by rwa [List.take_of_length_le h1,List.take_of_length_le h2] at h
theorem aJx (v1 v2:Value) (c d:aA6) (w:World) (h1:aAw w v1 c) (h2:aAw w v2 d) (hl:c.length<=100) (hr:∀ r∈c,r.length<=1000) :
  Calls prog 20 #[v1,v2] w fun e w'=>e = .returned (.bool (decide (c=d)))/\Bel w w':=by
 obtain ⟨A,k,rfl,hR1,_,_⟩:=h1;obtain ⟨A2,k2,rfl,hR2,_,_⟩:=h2;have H1:=aA0 (fun w' (k:Bel w w')=>hR1.keep k);have H2:=aA0 (fun w' (k:Bel w w')=>hR2.keep k);have HR:=aA0 hr;clear hR1 hR2 hr
 by_cases hn:c.length=d.length
 .have HN:=aA0 hn
  rw [<- hn];clear hn;have hb:(c.length != c.length)=false:=by simp
  go_enter func20,ntmps20;go_wp2;clear hb
  go_loopg [5] c.length (fun q x wr=>∃ j:Nat,j<=c.length/\q=c.length-j/\Hid (c.take j=d.take j)/\x = .int .i64 j/\Bel w wr)
  case atStart=>exact ⟨0,by omega,rfl,rfl,rfl,Bel.refl w⟩
  case round =>
   obtain ⟨j,hj,rfl,HK,rfl,HB⟩:=hrel
   by_cases hlt:j<c.length
   .have hd0:decide (j<c.length)=true:=by simpa using hlt
    have hlt2:j<d.length:=by rw [<- HN.out];exact hlt
    obtain ⟨b,o,R,rc,rfl,hbl,q0,i0,_,_⟩:=(H1.out _ (Bel.refl w)).at_ j hlt;obtain ⟨b',o',R',rc',rfl,hbl',q0',i0',_,_⟩:=(H2.out _ (Bel.refl w)).at_ j hlt2;have I0:=aA0 (fun w' (k:Bel w w')=>i0.keep k);have I1:=aA0 (fun w' (k:Bel w w')=>i0'.keep k);have hle:=HR.out _ (List.getElem_mem hlt);have hcell:=aA0 (fun w' (kk:Bel w w')=>show w'.cell? ⟨b,o+j,none⟩=some (.slice R c[j].length rc)/\w'.cell? ⟨b',o'+j,none⟩=some (.slice R' d[j].length rc')/\b<w'.heap.size/\b' < w'.heap.size from ⟨(kk.cell hbl).trans q0,(kk.cell hbl').trans q0',Nat.lt_of_lt_of_le hbl kk.size,Nat.lt_of_lt_of_le hbl' kk.size⟩)
    clear i0 i0' q0 q0';cases hs:decide (c[j]=d[j]) with
    | true =>
     have HS:=aA0 (of_decide_eq_true hs);have HSB:=aA0 hs;clear hs
     go_wp2_with fail
     replace HB:=HB.drew
     go_region_held3 (fun w'=>w'.cell? ⟨b,o+j,none⟩=some (.slice R c[j].length rc)/\w'.cell? ⟨b',o'+j,none⟩=some (.slice R' d[j].length rc')/\b<w'.heap.size/\b' < w'.heap.size) (exact hcell.out _ HB) (first
      | (go_simp;go_at_call 47;refine (aM3 _ _ c[j] _ _ d[j] _ (I0.out _ HB) (I1.out _ HB) (by omega)).mono ?_;rintro e w2 ⟨rfl,hb⟩;rw [HSB.out];replace HB:=HB.trans hb;clear hb))
     go_wp2_with fail
     go_roundg (c.length-(j+1))
     case rel =>
      refine ⟨j+1,by omega,rfl,?_,by go_num,HB⟩
      show c.take (j+1)=d.take (j+1)
      rw [List.take_succ_eq_append_getElem hlt,List.take_succ_eq_append_getElem hlt2,HK.out,HS.out]
     case measure=>omega
    | false =>
     have HS:=aA0 (of_decide_eq_false hs);have HSB:=aA0 hs;clear hs
     go_wp2_with fail
     replace HB:=HB.drew
     go_region_held3 (fun w'=>w'.cell? ⟨b,o+j,none⟩=some (.slice R c[j].length rc)/\w'.cell? ⟨b',o'+j,none⟩=some (.slice R' d[j].length rc')/\b<w'.heap.size/\b' < w'.heap.size) (exact hcell.out _ HB) (first
      | (go_simp;go_at_call 47;refine (aM3 _ _ c[j] _ _ d[j] _ (I0.out _ HB) (I1.out _ HB) (by omega)).mono ?_;rintro e w2 ⟨rfl,hb⟩;rw [HSB.out];replace HB:=HB.trans hb;clear hb))
     go_wp2_with fail
     go_ret;refine ⟨aA2 ?_,HB⟩
     symm
     simp only [decide_eq_false_iff_not]
     rintro rfl;exact HS.out rfl
   .have hd0:decide (j<c.length)=false:=by simpa using hlt
    go_wp2_with fail
    go_ret;exact ⟨aA2 (by symm;simp only [decide_eq_true_eq];exact aMw (k:=j) (by omega) (by rw [<- HN.out];omega) HK.out),HB⟩
 .have hb:(c.length != d.length)=true:=by simpa using hn
  have hb2:((c.length:Int) != (d.length:Int))=true:=by simp;omega
  go_enter func20,ntmps20;go_wp2;go_ret;exact ⟨aA2 (by symm;simp only [decide_eq_false_iff_not];rintro rfl;exact hn rfl),Bel.refl w⟩
theorem aYx {p:Prg} {g:Graph} {c:aA6} {T:Nat} (hm:aD1 p g c=0) (h0:T≠0) (hw:aBe T (aAk p g c)=true):aYw p g c T=(aBi p g c T,0):=by
 unfold aYw;rw [if_neg (by simpa using hm),if_neg (by rw [hw];simpa using h0)]
theorem aN7 {p:Prg} {g:Graph} {c:aA6} (hm:aD1 p g c=0):aMi p g c=aAk p g c:=by
 unfold aMi;rw [if_neg (by simpa using hm)]
theorem aUu {S v:Nat} (hv:v<32):aOo S (v:Int)=S.testBit v:=by
 unfold aOo;rw [decide_eq_true (show (0:Int)<=v by omega),decide_eq_true (show (v:Int)<32 by omega),Int.toNat_natCast];simp
attribute [local go_sem] Oper.semAt_some
end Go.Proofs.YtdcjnhoabbdanaaGreatDoor

namespace Go.Proofs.YtdcjnhoabbdanaaGreatDoor
open Go.RowKit
attribute [local go_sem] Oper.semAt_some
theorem Agr.of_bel {E:Nat->Prop} {A B C:World} (h:Agr E B C) (k:Bel A B):Agr E A C :=
 ⟨h.os.trans k.os,h.tape.trans k.tape,h.output.trans k.output,Nat.le_trans k.size h.size,fun i hi hn=>(h.block i (Nat.lt_of_lt_of_le hi k.size) hn).trans (k.block i hi)⟩
theorem bC7.inRound {α:Type} {F:Fence} {n:Nat} {P:Program} {g:Nat} {lb:Array Value} {encs:α->Array Value} {Bs Rs:Nat->Prop} {S:List α} {w:World} (l:Nat) (h:bC7 F n P g lb encs Bs Rs S w):bC7 (F.inRound l) n P g lb encs Bs Rs S w:=h
end Go.Proofs.YtdcjnhoabbdanaaGreatDoor

namespace Go.Proofs.YtdcjnhoabbdanaaGreatDoor
open Go.RowKit
end Go.Proofs.YtdcjnhoabbdanaaGreatDoor

