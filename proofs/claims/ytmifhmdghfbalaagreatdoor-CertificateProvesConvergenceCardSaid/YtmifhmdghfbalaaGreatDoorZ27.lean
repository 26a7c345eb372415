/- Merged. -/
import Derived.Test.YtmifhmdghfbalaaGreatDoorZ22
set_option linter.unusedSimpArgs false
set_option linter.unnecessarySimpa false
set_option linter.unusedVariables false
set_option maxRecDepth 100000
set_option maxHeartbeats 4000000
open Go.Proofs.Tryz

namespace Go.Proofs.YtmifhmdghfbalaaGreatDoor
open Go.RowKit
def aAu:=aAh 1 (aIu 2 aK3)
theorem aAu.keep {w w':World} {A:Option Addr} {n:Nat} {xs:List (List Term)} (h:aAu w A n xs) (k:Bel w w'):aAu w' A n xs:=aAh.keep (aIu.keeps aK3.keeps) h k
theorem aAu.at_ {w:World} {A:Option Addr} {n:Nat} {xs:List (List Term)} (h:aAu w A n xs) (k:Nat) (hk:k<xs.length) :
  ∃ b o R c,A=some ⟨b,o,none⟩/\b<w.heap.size/\w.cell? ⟨b,o+k,none⟩=some (.slice R xs[k].length c)/\aAr w R xs[k].length xs[k]/\xs[k].length<=c/\c<=maxLen:=RowsAt.at_ h k hk
theorem aGn {p:Prg} {e:List Term} (h:aJf p e=true):EOK p e:=by
 obtain ⟨h1,h2⟩:=aQx h;obtain ⟨t1,t2,t3,t4,_,_⟩:=aDi h1;exact ⟨t1,t2,t4,aLi (by rw [h2];decide),by omega⟩
theorem aSj {g:Graph} {c:aA8} {e:List Term}:∀ n:Nat,(∀ v,v<n->Num (aAw g c v (-1) (aAm e))) -> -(n*1073741824:Int)<=aSi g c e n/\aSi g c e n<=n*1073741824
 | 0,_=>by unfold aSi;simp
 | n+1,h=>by
  obtain ⟨a,b⟩:=aSj n fun v hv=>h v (by omega)
  have:=h n (by omega)
  unfold Num at this;rw [aO0];omega
theorem aPz {p:Prg} {g:Graph} {c:aA8} {e:List Term} (hm:aCp p g c=0) (he:EOK p e) (v:Nat) (hv:v<c.length):Num (aAw g c v (-1) (aAm e)) :=
 aI6 (aKr hm hv) he.ok (fun t ht=>he.arg t (by rwa [he.terms] at ht)) he.bound aE6
attribute [local go_sem] Oper.semAt_some
def bIo (p:Value):Nat:=match p with | .int _ x=>(x+1).toNat | _=>0
theorem aU2 (m:Nat):(List.range (m+1)).reverse=m :: (List.range m).reverse:=by rw [List.range_succ,List.reverse_append];rfl
theorem aBk.cell {E:Nat->Prop} {A B:World} (h:aBk E A B) {k o:Nat} {v:Value} (hc:A.cell? ⟨k,o,none⟩=some v) (hE:E k):B.cell? ⟨k,o,none⟩=some v:=by
 have hk:k<A.heap.size:=by
  rcases Nat.lt_or_ge k A.heap.size with h | h
  .exact h
  .simp [World.cell?,Array.getElem?_eq_none h] at hc
 rw [World.cell?_of_block (h.2 k hk hE)];exact hc
theorem aWo (A:Option Addr) (n c:Nat) (w:World) :
  Calls prog 239 #[.slice A n c] w fun e w'=>e = .returned (.func (.func 259) #[] #[.pointer (some ⟨w.heap.size,0,none⟩)])/\w'=w.alloc (.cells #[.slice A n c] 189):=by
 go_enter func239,ntmps239;go_wp2;go_ret;exact ⟨rfl,rfl⟩
theorem bIi (n:Nat) (B b o len cp:Nat) (R:Nat->Option Addr) (l cc:Nat->Nat) (w:World) (hn:1<=n) (hB:Boxed w B 189 (.slice (some ⟨b,o,none⟩) len cp)) (hb:b<w.heap.size) (hv:∀ v,v<len->w.cell? ⟨b,o+v,none⟩=some (.slice (R v) (l v) (cc v))) (hl:len<=100) :
  bHy Fence.wide n prog 259 #[.pointer (some ⟨B,0,none⟩)] (fun v:Nat=>#[.int .i64 (v:Int),.slice (R v) (l v) (cc v)]) (fun _=>False) (fun k=>k=B∨k=b) (List.range len).reverse w:=by
 intro lp J Jx W hW hJ hJx hY h0
 have HBW:Hid (Boxed W B 189 (.slice (some ⟨b,o,none⟩) len cp)):=(hW.block B hB.lt).trans hB;have HVW:Hid (∀ v,v<len->W.cell? ⟨b,o+v,none⟩=some (.slice (R v) (l v) (cc v))):=fun v h=>(hW.cell hb).trans (hv v h);have hbW:=Nat.lt_of_lt_of_le hb hW.size;clear hB hv hb;refine callsIn_of_wp func259 rfl trivial ?_ rfl
 simp only [ntmps259,List.size_toArray,List.length_cons,List.length_nil,Nat.reduceAdd,Nat.reduceSub,Array.replicate_succ,Array.replicate_zero,List.push_toArray,List.append_toArray,List.nil_append,List.cons_append]
 have c0:=HBW.out.cell;have f0:=HBW.out.frozen;have l0:=HBW.out.lt
 gi_wp2
 clear c0 f0 l0
 gi_loopw [3] (fun p wr=>∃ (pre:List Nat) (m:Nat) (z:Int),p = .int .i64 z/\z=(m:Int)-1/\m<=len/\Hid (pre++(List.range m).reverse=(List.range len).reverse)/\Hid (Boxed wr B 189 (.slice (some ⟨b,o,none⟩) len cp))/\Hid (∀ v,v<len->wr.cell? ⟨b,o+v,none⟩=some (.slice (R v) (l v) (cc v)))/\b<wr.heap.size/\Hid (J pre wr)) (fun p _=>bIo p)
 case atStart=>exact ⟨[],len,_,rfl,rfl,Nat.le_refl _,by show _=_;rfl,HBW,HVW,hbW,h0⟩
 case round =>
  clear h0 HBW HVW hbW;obtain ⟨pre,m,z,rfl,hz,hm,HP,HX,HV,hb,HJ⟩:=hrel;cases m with
  | zero =>
   have d0:decide (0<=z)=false:=by simp;omega
   gi_wp2
   go_end0
   have h:=HP.out;rw [List.range_zero,List.reverse_nil,List.append_nil] at h;exact ⟨⟨_,rfl⟩,.inl (by rw [<- h];exact HJ.out)⟩
  | succ v =>
   obtain rfl:z=(v:Int):=by omega
   clear hz;have d0:decide ((0:Int)<=(v:Int))=true:=by simp
   have hvl:(v:Int)<(len:Int):=by omega
   have hvl':decide (v<len)=true:=by simp;omega
   have hc:=HX.out.cell;have hf:=HX.out.frozen;have hl':=HX.out.lt;have hcv:=HV.out v (by omega)
   have HQ:Hid (pre++[v]++(List.range v).reverse=(List.range len).reverse):=by
    have:=HP.out;rw [aU2] at this;show _=_
    rw [List.append_assoc];exact this
   have hpre:pre++[v] <+: (List.range len).reverse:=⟨_,HQ.out⟩;obtain ⟨fn,tmps,assign,body,hy,hR⟩:=hY pre v wr hpre HJ.out;clear hpre
   gi_wp2
   refine hR.mono ?_
   rintro e w' (⟨rfl,hJ',hs⟩ | ⟨rfl,hJx'⟩)
   .have HX':Hid (Boxed w' B 189 (.slice (some ⟨b,o,none⟩) len cp)):=(hs.2 B HX.out.lt (.inr (.inl rfl))).trans HX.out
    have HV':Hid (∀ v,v<len->w'.cell? ⟨b,o+v,none⟩=some (.slice (R v) (l v) (cc v))):=fun u hu=>hs.cell (HV.out u hu) (.inr (.inr rfl));have hb':=Nat.lt_of_lt_of_le hb hs.1;have HJ':=aA1 hJ';clear hJ' hs hc hf hl' hcv
    gi_wp2
    go_roundw
    case rel=>exact ⟨pre++[v],v,_,rfl,rfl,by omega,HQ,HX',HV',hb',HJ'⟩
    case measure=>simp [bIo]
   .gi_wp2
    refine bodyPost_ret (results_none rfl _ _ _) rfl ?_
    exact ⟨⟨_,rfl⟩,.inr ⟨pre++[v],⟨_,HQ.out⟩,hJx'⟩⟩
theorem aWn (A:Option Addr) (n c:Nat) (w:World) :
  Calls prog 240 #[.slice A n c] w fun e w'=>e = .returned (.func (.func 260) #[] #[.pointer (some ⟨w.heap.size,0,none⟩)])/\w'=w.alloc (.cells #[.slice A n c] 235):=by
 go_enter func240,ntmps240;go_wp2;go_ret;exact ⟨rfl,rfl⟩
theorem bIh (n:Nat) (B b o len cp:Nat) (f:Nat->Int × Int) (w:World) (hn:1<=n) (hB:Boxed w B 235 (.slice (some ⟨b,o,none⟩) len cp)) (hb:b<w.heap.size) (hv:∀ v,v<len->w.cell? ⟨b,o+v*2,none⟩=some (.int .i64 (f v).1)/\w.cell? ⟨b,o+v*2+1,none⟩=some (.int .i64 (f v).2)) (hl:len<=100) :
  bHy Fence.wide n prog 260 #[.pointer (some ⟨B,0,none⟩)] (fun v:Nat=>#[.int .i64 (v:Int),.agg #[.int .i64 (f v).1,.int .i64 (f v).2]]) (fun _=>False) (fun k=>k=B∨k=b) (List.range len).reverse w:=by
 intro lp J Jx W hW hJ hJx hY h0
 have HBW:Hid (Boxed W B 235 (.slice (some ⟨b,o,none⟩) len cp)):=(hW.block B hB.lt).trans hB;have HVW:Hid (∀ v,v<len->W.cell? ⟨b,o+v*2,none⟩=some (.int .i64 (f v).1)/\W.cell? ⟨b,o+v*2+1,none⟩=some (.int .i64 (f v).2)):=fun v h=>⟨(hW.cell hb).trans (hv v h).1,(hW.cell hb).trans (hv v h).2⟩;have hbW:=Nat.lt_of_lt_of_le hb hW.size;clear hB hv hb;refine callsIn_of_wp func260 rfl trivial ?_ rfl
 simp only [ntmps260,List.size_toArray,List.length_cons,List.length_nil,Nat.reduceAdd,Nat.reduceSub,Array.replicate_succ,Array.replicate_zero,List.push_toArray,List.append_toArray,List.nil_append,List.cons_append]
 have c0:=HBW.out.cell;have f0:=HBW.out.frozen;have l0:=HBW.out.lt
 gi_wp2
 clear c0 f0 l0
 gi_loopw [3] (fun p wr=>∃ (pre:List Nat) (m:Nat) (z:Int),p = .int .i64 z/\z=(m:Int)-1/\m<=len/\Hid (pre++(List.range m).reverse=(List.range len).reverse)/\Hid (Boxed wr B 235 (.slice (some ⟨b,o,none⟩) len cp))/\Hid (∀ v,v<len->wr.cell? ⟨b,o+v*2,none⟩=some (.int .i64 (f v).1)/\wr.cell? ⟨b,o+v*2+1,none⟩=some (.int .i64 (f v).2))/\b<wr.heap.size/\Hid (J pre wr)) (fun p _=>bIo p)
 case atStart=>exact ⟨[],len,_,rfl,rfl,Nat.le_refl _,by show _=_;rfl,HBW,HVW,hbW,h0⟩
 case round =>
  clear h0 HBW HVW hbW;obtain ⟨pre,m,z,rfl,hz,hm,HP,HX,HV,hb,HJ⟩:=hrel;cases m with
  | zero =>
   have d0:decide (0<=z)=false:=by simp;omega
   gi_wp2
   go_end0
   have h:=HP.out;rw [List.range_zero,List.reverse_nil,List.append_nil] at h;exact ⟨⟨_,rfl⟩,.inl (by rw [<- h];exact HJ.out)⟩
  | succ v =>
   obtain rfl:z=(v:Int):=by omega
   clear hz;have d0:decide ((0:Int)<=(v:Int))=true:=by simp
   have hvl:(v:Int)<(len:Int):=by omega
   have hvl':decide (v<len)=true:=by simp;omega
   have hc:=HX.out.cell;have hf:=HX.out.frozen;have hl':=HX.out.lt;obtain ⟨hcv,hcv2⟩:=HV.out v (by omega)
   have HQ:Hid (pre++[v]++(List.range v).reverse=(List.range len).reverse):=by
    have:=HP.out;rw [aU2] at this;show _=_
    rw [List.append_assoc];exact this
   have hpre:pre++[v] <+: (List.range len).reverse:=⟨_,HQ.out⟩;obtain ⟨fn,tmps,assign,body,hy,hR⟩:=hY pre v wr hpre HJ.out;clear hpre
   gi_wp2
   refine hR.mono ?_
   rintro e w' (⟨rfl,hJ',hs⟩ | ⟨rfl,hJx'⟩)
   .have HX':Hid (Boxed w' B 235 (.slice (some ⟨b,o,none⟩) len cp)):=(hs.2 B HX.out.lt (.inr (.inl rfl))).trans HX.out
    have HV':Hid (∀ v,v<len->w'.cell? ⟨b,o+v*2,none⟩=some (.int .i64 (f v).1)/\w'.cell? ⟨b,o+v*2+1,none⟩=some (.int .i64 (f v).2)):=fun u hu=>⟨hs.cell (HV.out u hu).1 (.inr (.inr rfl)),hs.cell (HV.out u hu).2 (.inr (.inr rfl))⟩;have hb':=Nat.lt_of_lt_of_le hb hs.1;have HJ':=aA1 hJ';clear hJ' hs hc hf hl' hcv hcv2
    gi_wp2
    go_roundw
    case rel=>exact ⟨pre++[v],v,_,rfl,rfl,by omega,HQ,HX',HV',hb',HJ'⟩
    case measure=>simp [bIo]
   .gi_wp2
    refine bodyPost_ret (results_none rfl _ _ _) rfl ?_
    exact ⟨⟨_,rfl⟩,.inr ⟨pre++[v],⟨_,HQ.out⟩,hJx'⟩⟩
end Go.Proofs.YtmifhmdghfbalaaGreatDoor

namespace Go.Proofs.YtmifhmdghfbalaaGreatDoor
open Go.RowKit
theorem bA2 {p:Prg} {e:List Term}:(aJf p e=true/\ofF e (aAx p) false=(1,0))∨(aJf p e=false/\((ofF e (aAx p) false).2 != 0||(ofF e (aAx p) false).1 != 1)=true):=by
 rw [bBr];cases h:((ofF e (aAx p) false).2==0&&(ofF e (aAx p) false).1==1) with
 | true =>
  left
  rw [Bool.and_eq_true,beq_iff_eq,beq_iff_eq] at h;exact ⟨rfl,Prod.ext h.2 h.1⟩
 | false =>
  right
  refine ⟨rfl,?_⟩
  rw [Bool.and_eq_false_iff] at h;rw [Bool.or_eq_true]
  rcases h with h | h
  .left;simpa using h
  .right;simpa using h
theorem aBa (v1:Value) (p:Prg) (A:Option Addr) (ca:Nat) (l:List (List Term)) (w:World) (h:aE0 w v1 p) (hT:aAu w A l.length l) (hL:aAt p=true) (hl:l.length<=1000) (he:∀ e∈l,e.length<=1000) :
  Calls prog 50 #[v1,.slice A l.length ca] w fun e w'=>e = .returned (.bool (aD6 p l))/\Bel w w':=by
 have HF:Hid (aD6 p l=(decide (aBm p=0)&&(decide (1<=l.length)&&decide (l.length<=6))&&l.all (aJf p))):=rfl;have HPV:=aA1 (fun w' (k:Bel w w')=>h.keep k);have HTR:=aA1 (fun w' (k:Bel w w')=>hT.keep k);obtain ⟨A1,k1,A2,k2,rfl,_,_,_,_,_,_⟩:=h;have HW:=Bel.refl (w.alloc (.cells #[.string p.name,.slice A1 p.vars.length k1,.slice A2 p.rules.length k2] 25));have hp10:=(aAi hL).2.1;have HL:=aA1 hL;have HLE:=aA1 he;clear hT hL he;cases hc:decide (aBm p=0) with
 | false =>
  rw [hc] at HF;have q0:=aA9 HW 0 (v := .string p.name) rfl;go_enter func50,ntmps50
  go_wp2_with (go_at_call 98;refine (aCr _ p _ (HPV.out _ (aA3 HW)) HL.out).mono ?_;rintro e w' ⟨rfl,hb⟩;rw [hc];replace HW:=HW.trans hb;clear hb)
  go_ret;exact ⟨aA2 (by rw [HF.out];rfl),aA3 HW⟩
 | true =>
  rw [hc] at HF
  by_cases h1:1<=l.length
  .by_cases h6:l.length<=6
   .rw [decide_eq_true h1,decide_eq_true h6] at HF
    have d1:decide (l.length<1)=false:=decide_eq_false (by omega)
    have d1I:decide ((l.length:Int)<1)=false:=decide_eq_false (by omega)
    have d6:decide (6<l.length)=false:=decide_eq_false (by omega)
    have d6I:decide ((6:Int)<(l.length:Int))=false:=decide_eq_false (by omega)
    have HC:=aA1 hc;clear hc h1 h6;go_enter func50,ntmps50
    go_wp2_with (go_at_call 98;refine (aCr _ p _ (HPV.out _ (aA3 HW)) HL.out).mono ?_;rintro e w' ⟨rfl,hb⟩;rw [HC.out];replace HW:=HW.trans hb;clear hb)
    go_loopg [5] l.length (fun m z wr=>∃ i:Nat,i<=l.length/\m=l.length-i/\z = .int .i64 (i:Int)/\Hid ((l.drop i).all (aJf p)=l.all (aJf p))/\Bel (w.alloc (.cells #[.string p.name,.slice A1 p.vars.length k1,.slice A2 p.rules.length k2] 25)) wr)
    case atStart=>exact ⟨0,by omega,rfl,rfl,rfl,HW⟩
    case round =>
     clear HW d1 d1I d6 d6I;obtain ⟨i,hi,rfl,rfl,HQ,HW⟩:=hrel
     by_cases hlt:i<l.length
     .have hd0:decide (i<l.length)=true:=by simpa using hlt
      have hkI:(i:Int)<(l.length:Int):=by omega
      obtain ⟨b,o,R,rc,rfl,hb0,x1,hR,_,_⟩:=(HTR.out _ (Bel.refl w)).at_ i hlt;have hle:=HLE.out _ (List.getElem_mem hlt);rw [List.drop_eq_getElem_cons hlt,List.all_cons] at HQ;have HX:=aA1 (fun w' (k:Bel w w')=>hR.keep k);generalize l[i]=x at *;have hcell:=aA1 (fun w' (kk:Bel (w.alloc (.cells #[.string p.name,.slice A1 p.vars.length k1,.slice A2 p.rules.length k2] 25)) w')=>show w'.cell? ⟨w.heap.size,0,none⟩=some (.string p.name)/\w'.cell? ⟨w.heap.size,1,none⟩=some (.slice A1 p.vars.length k1)/\w'.cell? ⟨w.heap.size,2,none⟩=some (.slice A2 p.rules.length k2)/\w'.cell? ⟨b,o+i,none⟩=some (.slice R x.length rc)/\w.heap.size<w'.heap.size/\b<w'.heap.size from ⟨aA9 kk 0 rfl,aA9 kk 1 rfl,aA9 kk 2 rfl,((aA3 kk).cell hb0).trans x1,aAz kk,Nat.lt_of_lt_of_le hb0 (aA3 kk).size⟩)
      clear hR x1;obtain ⟨of,hof⟩:∃ of,ofF x (aAx p) false=of:=⟨_,rfl⟩;have hcs:=bA2 (p:=p) (e:=x);rw [hof] at hcs;have HOF:=aA1 hof;clear hof
      rcases hcs with ⟨hE,rfl⟩ | ⟨hE,hbad⟩
      .rw [hE,Bool.true_and] at HQ
       clear hE
       go_wp2_with fail
       replace HW:=HW.drew
       go_region_held3 (fun w'=>w'.cell? ⟨w.heap.size,0,none⟩=some (.string p.name)/\w'.cell? ⟨w.heap.size,1,none⟩=some (.slice A1 p.vars.length k1)/\w'.cell? ⟨w.heap.size,2,none⟩=some (.slice A2 p.rules.length k2)/\w'.cell? ⟨b,o+i,none⟩=some (.slice R x.length rc)/\w.heap.size<w'.heap.size/\b<w'.heap.size) (exact hcell.out _ HW) (first
        | (go_simp;go_at_call 100;refine (aGu _ p _ (HPV.out _ (aA3 HW)) (by omega)).mono ?_;rintro e w' ⟨KA,kc,rfl,hK,_,_,hb⟩;have HK:=aA1 hK;replace HW:=HW.trans hb;clear hb hK)
        | (go_simp;go_at_call 99;refine (aNv _ _ x _ _ (aAx p) _ _ (HX.out _ (aA3 HW)) HK.out hle).mono ?_;rintro e w' ⟨rfl,hb⟩;rw [HOF.out];replace HW:=HW.trans hb;clear hb))
       go_wp2_with fail
       go_roundg (l.length-(i+1))
       case rel=>exact ⟨i+1,by omega,rfl,by go_num,HQ,HW⟩
       case measure=>omega
      .rw [hE,Bool.false_and] at HQ
       obtain ⟨ok,oe⟩:=of;dsimp only at hbad
       have hbad2:((oe != 0)=true)∨((oe != 0)=false/\(ok != 1)=true):=by
        cases h:(oe != 0) with
        | true=>left;rfl
        | false=>right;rw [h,Bool.false_or] at hbad;exact ⟨rfl,hbad⟩
       clear hE hbad
       rcases hbad2 with z0 | ⟨z0,z1⟩
       all_goals
        go_wp2_with fail
        replace HW:=HW.drew
        go_region_held3 (fun w'=>w'.cell? ⟨w.heap.size,0,none⟩=some (.string p.name)/\w'.cell? ⟨w.heap.size,1,none⟩=some (.slice A1 p.vars.length k1)/\w'.cell? ⟨w.heap.size,2,none⟩=some (.slice A2 p.rules.length k2)/\w'.cell? ⟨b,o+i,none⟩=some (.slice R x.length rc)/\w.heap.size<w'.heap.size/\b<w'.heap.size) (exact hcell.out _ HW) (first
         | (go_simp;go_at_call 100;refine (aGu _ p _ (HPV.out _ (aA3 HW)) (by omega)).mono ?_;rintro e w' ⟨KA,kc,rfl,hK,_,_,hb⟩;have HK:=aA1 hK;replace HW:=HW.trans hb;clear hb hK)
         | (go_simp;go_at_call 99;refine (aNv _ _ x _ _ (aAx p) _ _ (HX.out _ (aA3 HW)) HK.out hle).mono ?_;rintro e w' ⟨rfl,hb⟩;rw [HOF.out];replace HW:=HW.trans hb;clear hb))
        go_wp2_with fail
        go_ret;exact ⟨aA2 (by rw [HF.out,<- HQ.out];rfl),aA3 HW⟩
     .have hd0:decide (i<l.length)=false:=by simpa using hlt
      obtain rfl:i=l.length:=by omega
      rw [List.drop_length] at HQ
      go_wp2_with fail
      go_ret;exact ⟨aA2 (by rw [HF.out,<- HQ.out];rfl),aA3 HW⟩
   .rw [decide_eq_false h6] at HF
    have d1:decide (l.length<1)=false:=decide_eq_false (by omega)
    have d1I:decide ((l.length:Int)<1)=false:=decide_eq_false (by omega)
    have d6:decide (6<l.length)=true:=decide_eq_true (by omega)
    have d6I:decide ((6:Int)<(l.length:Int))=true:=decide_eq_true (by omega)
    go_enter func50,ntmps50
    go_wp2_with (go_at_call 98;refine (aCr _ p _ (HPV.out _ (aA3 HW)) HL.out).mono ?_;rintro e w' ⟨rfl,hb⟩;rw [hc];replace HW:=HW.trans hb;clear hb)
    go_ret;exact ⟨aA2 (by rw [HF.out];simp),aA3 HW⟩
  .rw [decide_eq_false h1] at HF
   have d1:decide (l.length<1)=true:=decide_eq_true (by omega)
   have d1I:decide ((l.length:Int)<1)=true:=decide_eq_true (by omega)
   go_enter func50,ntmps50
   go_wp2_with (go_at_call 98;refine (aCr _ p _ (HPV.out _ (aA3 HW)) HL.out).mono ?_;rintro e w' ⟨rfl,hb⟩;rw [hc];replace HW:=HW.trans hb;clear hb)
   go_ret;exact ⟨aA2 (by rw [HF.out];rfl),aA3 HW⟩
def bEr (l:List Int) (w:World) (e:Ending) (w':World):Prop:=∃ A c,e = .returned (.slice A l.length c)/\w'.ownsRow w.heap.size 3 1 (.slice A l.length c) l.length (l.map (Value.int .i64))/\Bel w w'
theorem aU3 (p:Prg) (v2:Value) (g:Graph) (v3:Value) (c:aA8) (A:Option Addr) (ca:Nat) (l:List (List Term)) (w:World) (h2:aAl w v2 g) (h3:aDf w v3 c) (hT:aAu w A l.length l) (hm:aCp p g c=0) (he:∀ e∈l,EOK p e) (hl:l.length<=10) :
  Calls prog 105 #[v2,v3,.slice A l.length ca] w (bEr (aPj g c l) w):=by
 have HGV:=aA1 (fun w' (k:Bel w w')=>h2.keep k);have HCV:=aA1 (fun w' (k:Bel w w')=>h3.keep k);have HTR:=aA1 (fun w' (k:Bel w w')=>hT.keep k);obtain ⟨A3,k3,A4,k4,rfl,_,_,_,_,_,_⟩:=h2;obtain ⟨A5,k5,rfl,_,_,_⟩:=h3;have HLE:=aA1 he;have HM:=aA1 hm;have hcl:c.length<=24:=by rw [aCa hm];exact (aAe (aBn hm).1).2.1.le
 have HW:=Bel.refl (w.alloc (.cells #[.slice A3 g.ids.length k3,.slice A4 g.ports.length k4] 29));clear hT he hm;obtain ⟨i0,hi0,hz0,hz1,hz2⟩:=info_parts aFm;have HVL:Hid ((aPj g c l).length=l.length):=aFb g c l;go_enter func105,ntmps105
 go_wp2_with fail
 go_loopg [7,8] l.length (fun m s z wr=>∃ (i:Nat) (R:Option Addr) (rc:Nat),i<=l.length/\m=l.length-i/\s = .slice R i rc/\z = .int .i64 (i:Int)/\Hid (wr.ownsRow (w.heap.size+1) 3 1 (.slice R i rc) i (((aPj g c l).take i).map (Value.int .i64)))/\Bel (w.alloc (.cells #[.slice A3 g.ids.length k3,.slice A4 g.ports.length k4] 29)) wr)
 case atStart=>exact ⟨0,none,0,by omega,rfl,rfl,rfl,World.ownsRow_nil _ _ _ _,HW⟩
 case round =>
  clear HW;obtain ⟨i,R,rc,hi,rfl,rfl,rfl,HO,HW⟩:=hrel;obtain ⟨wo,rfl⟩:∃ wo,wo=wr:=⟨_,rfl⟩
  by_cases hlt:i<l.length
  .have hd0:decide (i<l.length)=true:=by simpa using hlt
   have hkI:(i:Int)<(l.length:Int):=by omega
   obtain ⟨b,o,Q,qc,rfl,hb0,x1,hQ,_,_⟩:=(HTR.out _ (Bel.refl w)).at_ i hlt;have heo:=HLE.out _ (List.getElem_mem hlt)
   have HVT:Hid (((aPj g c l).take (i+1)).map (Value.int .i64)=((aPj g c l).take i).map (Value.int .i64)++[.int .i64 (aSi g c l[i] c.length)]):=by
    show ((aPj g c l).take (i+1)).map (Value.int .i64)=_
    rw [List.take_succ_eq_append_getElem (by rw [HVL.out];exact hlt),List.map_append]
    simp [aPj]
   have HQ:=aA1 (fun w' (k:Bel w w')=>hQ.keep k);have X1:=aA1 x1;generalize l[i]=x at *;have HEO:=aA1 heo;have HNM:=aA1 (fun (v:Nat) (hv:v<c.length)=>aPz HM.out heo v hv);have hxl:=heo.len;clear hQ x1 heo;have hcell:=aA1 (fun w' (kk:Bel (w.alloc (.cells #[.slice A3 g.ids.length k3,.slice A4 g.ports.length k4] 29)) w')=>show w'.cell? ⟨w.heap.size,0,none⟩=some (.slice A3 g.ids.length k3)/\w'.cell? ⟨w.heap.size,1,none⟩=some (.slice A4 g.ports.length k4)/\w'.cell? ⟨b,o+i,none⟩=some (.slice Q x.length qc)/\w.heap.size<w'.heap.size/\b<w'.heap.size from ⟨aA9 kk 0 rfl,aA9 kk 1 rfl,((aA3 kk).cell hb0).trans X1.out,aAz kk,Nat.lt_of_lt_of_le hb0 (aA3 kk).size⟩)
   go_wp2_with fail
   go_loopg [9,10] c.length (fun m s z wr=>∃ v:Nat,v<=c.length/\m=c.length-v/\s = .int .i64 (aSi g c x v)/\z = .int .i64 (v:Int)/\Bel wo wr)
   case atStart=>exact ⟨0,by omega,rfl,by simp [aSi],rfl,Bel.refl wo⟩
   case round =>
    obtain ⟨v,hv,rfl,rfl,rfl,HB⟩:=hrel;have HW2:=HW.trans HB
    by_cases hvl:v<c.length
    .have hd1:decide (v<c.length)=true:=by simpa using hvl
     have hn:=HNM.out v hvl;obtain ⟨s1,s2⟩:=aSj v fun u hu=>HNM.out u (by omega)
     have HSS:=aA1 (aO0 g c x v);have HSK:=aA1 (aKr HM.out hvl);unfold Num at hn;obtain ⟨ev,hev⟩:∃ ev,aAw g c v (-1) (aAm x)=ev:=⟨_,rfl⟩;obtain ⟨sv,hsv⟩:∃ sv,aSi g c x v=sv:=⟨_,rfl⟩;rw [hev] at hn HSS;rw [hsv] at s1 s2 HSS;rw [hsv];have HEV:=aA1 hev;clear hev hsv
     go_wp2_with fail
     replace HW2:=HW2.drew;have HB1:=HB.drew
     go_region_held3 (fun w'=>w'.cell? ⟨w.heap.size,0,none⟩=some (.slice A3 g.ids.length k3)/\w'.cell? ⟨w.heap.size,1,none⟩=some (.slice A4 g.ports.length k4)/\w'.cell? ⟨b,o+i,none⟩=some (.slice Q x.length qc)/\w.heap.size<w'.heap.size/\b<w'.heap.size) (exact hcell.out _ HW2) ((go_simp;go_at_call 111;refine (aWi p g c v HSK.out (aAm x) false (-1) _ _ _ _ x 0 _ (HGV.out _ (aA3 HW2)) (HCV.out _ (aA3 HW2)) (HQ.out _ (aA3 HW2)) (At.whole HEO.out.ok HEO.out.terms) HEO.out.arg hxl HEO.out.bound aE6).mono ?_;rintro e w' ⟨rfl,hb⟩;rw [HEV.out];replace HW2:=HW2.trans hb;replace HB1:=HB1.trans hb;clear hb))
     go_wp2_with fail
     go_roundg (c.length-(v+1))
     case rel=>exact ⟨v+1,by omega,rfl,by rw [HSS.out,IntWalk.i64_in _ (by omega)],by go_num,HB1⟩
     case measure=>omega
    .have hd1:decide (v<c.length)=false:=by simpa using hvl
     obtain rfl:v=c.length:=by omega
     have HO3:=aA1 (HB.owns HO.out);obtain ⟨sv,hsv⟩:∃ sv,aSi g c x c.length=sv:=⟨_,rfl⟩;rw [hsv] at HVT;rw [hsv];clear hsv;have hbz:=aAz HW2
     go_wp2_with (at_builtin;refine aC5 _ rfl (.tmp 33) (.tmp 35) 26 rfl (w.heap.size+1) 3 i0 (.int .i64 0) 1 8 underlying26 hi0 hz0 hz1 hz2 rfl (by decide) R i rc _ (by simp [Act.eval]) (HO3.out.alloc _) wr.heap.size #[.int .i64 sv] 3 (0,0) (by simp [Act.eval]) (aBr _ _) rfl (aMm _ _) (by unfold maxLen;omega) (by omega) (by simp;omega) ?_;intro R2 rc2 w2 hown hgr hat;have HB2:=(HW2.alloc _).pushB (HO3.out.alloc _) (by simp) hgr;have HO2:=aA1 hown;clear hown hgr hat)
     go_roundg (l.length-(i+1))
     case rel =>
      refine ⟨i+1,R2,rc2,by omega,rfl,rfl,by go_num,?_,HB2⟩
      show World.ownsRow _ _ _ _ _ _ _
      rw [HVT.out];exact HO2.out
     case measure=>omega
  .have hd0:decide (i<l.length)=false:=by simpa using hlt
   obtain rfl:i=l.length:=by omega
   go_wp2_with fail
   go_ret;have h1:=HO.out;rw [List.take_of_length_le (by rw [HVL.out];exact Nat.le_refl _)] at h1
   exact ⟨R,rc,by rw [HVL.out];rfl,by rw [HVL.out];exact aGr h1 (Nat.le_succ _),aA3 HW⟩
def aL9 (p:Prg) (g:Graph) (c:aA8) (l:List (List Term)):List Int × Int:=if aCp p g c≠0 then ([],aCp p g c) else if aD6 p l=false then ([],7) else (aPj g c l,0)
def aQa (r:List Int × Int) (w:World) (e:Ending) (w':World):Prop:=∃ A c,e = .returned (.tuple #[.slice A r.1.length c,.int .i64 r.2])/\aB7 w' A r.1.length r.1/\Bel w w'
theorem aVu (v1:Value) (p:Prg) (v2:Value) (g:Graph) (v3:Value) (c:aA8) (A:Option Addr) (ca:Nat) (l:List (List Term)) (w:World) (h:aE0 w v1 p) (h2:aAl w v2 g) (h3:aDf w v3 c) (hT:aAu w A l.length l) (hL:aAt p=true) (hG:aB3 g=true) (hC:aE1 c=true) (hl:l.length<=10) (he:∀ e∈l,e.length<=250) :
  Calls prog 53 #[v1,v2,v3,.slice A l.length ca] w (aQa (aL9 p g c l) w):=by
 have HF:Hid (aL9 p g c l=if aCp p g c≠0 then ([],aCp p g c) else if aD6 p l=false then ([],7) else (aPj g c l,0)):=rfl
 have HPV:=aA1 (fun w' (k:Bel w w')=>h.keep k);have HGV:=aA1 (fun w' (k:Bel w w')=>h2.keep k);have HCV:=aA1 (fun w' (k:Bel w w')=>h3.keep k);have HTR:=aA1 (fun w' (k:Bel w w')=>hT.keep k);obtain ⟨A1,k1,A2,k2,rfl,_,_,_,_,_,_⟩:=h;obtain ⟨A3,k3,A4,k4,rfl,_,_,_,_,_,_⟩:=h2;have HW:=Bel.refl ((w.alloc (.cells #[.string p.name,.slice A1 p.vars.length k1,.slice A2 p.rules.length k2] 25)).alloc (.cells #[.slice A3 g.ids.length k3,.slice A4 g.ports.length k4] 29));have HL:=aA1 hL;have HGL:=aA1 hG;have HCL:=aA1 hC;have HLE:=aA1 he;clear hL hG hC hT he
 by_cases hm:aCp p g c=0
 .rw [if_neg (by simpa using hm)] at HF
  have HM:=aA1 hm;clear hm;cases hv:aD6 p l with
  | false =>
   rw [hv,if_pos rfl] at HF;have HV:=aA1 hv;go_enter func53,ntmps53
   go_wp2_with (first
    | (go_at_call 104;refine (aBb _ p _ g _ c _ (HPV.out _ (aA0 HW)) (HGV.out _ (aA0 HW)) (HCV.out _ (aA0 HW)) HL.out HGL.out HCL.out).mono ?_;rintro e w' ⟨rfl,hb⟩;rw [HM.out];replace HW:=HW.trans hb;clear hb;(try clear p0 p1 p2 g0 g1 gsz);obtain ⟨p0,p1,p2,g0,g1,gsz⟩:=aA6 HW)
    | (go_at_call 50;refine (aBa _ p A ca l _ (HPV.out _ (aA0 HW)) (HTR.out _ (aA0 HW)) HL.out (by omega) (fun e he=>by have:=HLE.out e he;omega)).mono ?_;rintro e w' ⟨rfl,hb⟩;rw [HV.out];replace HW:=HW.trans hb;clear hb;(try clear p0 p1 p2 g0 g1 gsz);obtain ⟨p0,p1,p2,g0,g1,gsz⟩:=aA6 HW))
   go_ret2
   rw [HF.out];exact ⟨none,0,rfl,aAh.nil,aA0 HW⟩
  | true =>
   rw [hv,if_neg (by decide)] at HF
   have HV:=aA1 hv;have HEO:=aA1 (fun e he=>aGn ((aCk hv).2.2.2 e he));go_enter func53,ntmps53
   go_wp2_with (first
    | (go_at_call 104;refine (aBb _ p _ g _ c _ (HPV.out _ (aA0 HW)) (HGV.out _ (aA0 HW)) (HCV.out _ (aA0 HW)) HL.out HGL.out HCL.out).mono ?_;rintro e w' ⟨rfl,hb⟩;rw [HM.out];replace HW:=HW.trans hb;clear hb;(try clear p0 p1 p2 g0 g1 gsz);obtain ⟨p0,p1,p2,g0,g1,gsz⟩:=aA6 HW)
    | (go_at_call 50;refine (aBa _ p A ca l _ (HPV.out _ (aA0 HW)) (HTR.out _ (aA0 HW)) HL.out (by omega) (fun e he=>by have:=HLE.out e he;omega)).mono ?_;rintro e w' ⟨rfl,hb⟩;rw [HV.out];replace HW:=HW.trans hb;clear hb;(try clear p0 p1 p2 g0 g1 gsz);obtain ⟨p0,p1,p2,g0,g1,gsz⟩:=aA6 HW)
    | (go_at_call 105;refine (aU3 p _ g _ c A ca l _ (HGV.out _ (aA0 HW)) (HCV.out _ (aA0 HW)) (HTR.out _ (aA0 HW)) HM.out HEO.out hl).mono ?_;rintro e w' ⟨RA,rk,rfl,hR,hb⟩;have HR:=aA1 (aGj hR);clear hR;replace HW:=HW.trans hb;clear hb;(try clear p0 p1 p2 g0 g1 gsz);obtain ⟨p0,p1,p2,g0,g1,gsz⟩:=aA6 HW))
   go_ret2
   rw [HF.out];exact ⟨_,_,rfl,HR.out,aA0 HW⟩
 .rw [if_pos hm] at HF
  have d0:(aCp p g c != 0)=true:=by simpa using hm
  clear hm;go_enter func53,ntmps53
  go_wp2_with (go_at_call 104;refine (aBb _ p _ g _ c _ (HPV.out _ (aA0 HW)) (HGV.out _ (aA0 HW)) (HCV.out _ (aA0 HW)) HL.out HGL.out HCL.out).mono ?_;rintro e w' ⟨rfl,hb⟩;replace HW:=HW.trans hb;clear hb;(try clear p0 p1 p2 g0 g1 gsz);obtain ⟨p0,p1,p2,g0,g1,gsz⟩:=aA6 HW)
  go_ret2
  rw [HF.out];exact ⟨none,0,rfl,aAh.nil,aA0 HW⟩
theorem bA3 {p:Prg} {e:List Term}:(aB8 e p.vars.length=false/\aJf p e=false)∨(aB8 e p.vars.length=true/\aJf p e=((ofF e (aAx p) false).1==1)):=by
 cases h:aB8 e p.vars.length with
 | true=>right;exact ⟨rfl,rfl⟩
 | false =>
  left
  refine ⟨rfl,?_⟩
  cases he:aJf p e with
  | false=>rfl
  | true=>rw [(aQx he).1] at h;cases h
theorem aEf (v1:Value) (p:Prg) (A:Option Addr) (ca:Nat) (l:List (List Term)) (w:World) (h:aE0 w v1 p) (hT:aAu w A l.length l) (hL:aAt p=true) (hl:l.length<=1000) (he:∀ e∈l,e.length<=1000) :
  Calls prog 54 #[v1,.slice A l.length ca] w fun e w'=>e = .returned (.bool (aD6 p l))/\Bel w w':=by
 have HF:Hid (aD6 p l=(decide (aBm p=0)&&(decide (1<=l.length)&&decide (l.length<=6))&&l.all (aJf p))):=rfl;have HPV:=aA1 (fun w' (k:Bel w w')=>h.keep k);have HTR:=aA1 (fun w' (k:Bel w w')=>hT.keep k);obtain ⟨A1,k1,A2,k2,rfl,_,_,_,_,_,_⟩:=h;have HW:=Bel.refl (w.alloc (.cells #[.string p.name,.slice A1 p.vars.length k1,.slice A2 p.rules.length k2] 25));have hp10:=(aAi hL).2.1;have HL:=aA1 hL;have HLE:=aA1 he;have q0:=aA9 HW 0 (v := .string p.name) rfl;have q1:=aA9 HW 1 (v := .slice A1 p.vars.length k1) rfl;have q2:=aA9 HW 2 (v := .slice A2 p.rules.length k2) rfl;have ql:=aAz HW;clear hT hL he;cases hc:decide (aBm p=0) with
 | false =>
  rw [hc] at HF;go_enter func54,ntmps54
  go_wp2_with (go_at_call 106;refine (aE7 _ p _ (HPV.out _ (aA3 HW)) HL.out).mono ?_;rintro e w' ⟨rfl,hb⟩;rw [hc];replace HW:=HW.trans hb;clear hb)
  go_ret;exact ⟨aA2 (by rw [HF.out];rfl),aA3 HW⟩
 | true =>
  rw [hc] at HF
  by_cases h1:1<=l.length
  .by_cases h6:l.length<=6
   .rw [decide_eq_true h1,decide_eq_true h6] at HF
    have d1:decide (l.length<1)=false:=decide_eq_false (by omega)
    have d1I:decide ((l.length:Int)<1)=false:=decide_eq_false (by omega)
    have d6:decide (6<l.length)=false:=decide_eq_false (by omega)
    have d6I:decide ((6:Int)<(l.length:Int))=false:=decide_eq_false (by omega)
    have HC:=aA1 hc;clear hc h1 h6;go_enter func54,ntmps54
    go_wp2_with (first
     | (go_at_call 106;refine (aE7 _ p _ (HPV.out _ (aA3 HW)) HL.out).mono ?_;rintro e w' ⟨rfl,hb⟩;rw [HC.out];replace HW:=HW.trans hb;clear hb q0 q1 q2 ql;have q0:=aA9 HW 0 (v := .string p.name) rfl;have q1:=aA9 HW 1 (v := .slice A1 p.vars.length k1) rfl;have q2:=aA9 HW 2 (v := .slice A2 p.rules.length k2) rfl;have ql:=aAz HW)
     | (go_at_call 107;refine (aXl _ p _ (HPV.out _ (aA3 HW)) (by omega)).mono ?_;rintro e w1 ⟨KA,kc,rfl,hK,_,_,hb⟩;have HK:=aA1 (fun w' (kk:Bel w1 w')=>aB7.keep hK kk);replace HW:=HW.trans hb;clear hb hK))
    have HW1:=aA1 HW;have HB:=Bel.refl w1
    go_loopg [27] l.length (fun m z wr=>∃ i:Nat,i<=l.length/\m=l.length-i/\z = .int .i64 (i:Int)/\Hid ((l.drop i).all (aJf p)=l.all (aJf p))/\Bel w1 wr)
    case atStart=>exact ⟨0,by omega,rfl,rfl,rfl,HB⟩
    case round =>
     clear HW HB d1 d1I d6 d6I q0 q1 q2 ql;obtain ⟨i,hi,rfl,rfl,HQ,HB⟩:=hrel;have HW:=HW1.out.trans HB
     by_cases hlt:i<l.length
     .have hd0:decide (i<l.length)=true:=by simpa using hlt
      have hkI:(i:Int)<(l.length:Int):=by omega
      obtain ⟨b,o,R,rc,rfl,hb0,x1,hR,_,_⟩:=(HTR.out _ (aA3 HW)).at_ i hlt;have hle:=HLE.out _ (List.getElem_mem hlt);rw [List.drop_eq_getElem_cons hlt,List.all_cons] at HQ;generalize l[i]=x at *;have HX:=aA1 (fun w' (k:Bel wr w')=>hR.keep k);have q1:=aA9 HW 1 (v := .slice A1 p.vars.length k1) rfl;have ql:=aAz HW;obtain ⟨of,hof⟩:∃ of,ofF x (aAx p) false=of:=⟨_,rfl⟩;have hcs:=bA3 (p:=p) (e:=x);rw [hof] at hcs;have HOF:=aA1 hof;clear hof hR;have HBr:=Bel.refl wr
      rcases hcs with ⟨hv,hE⟩ | ⟨hv,hE⟩
      .rw [hE,Bool.false_and] at HQ
       have HV:=aA1 hv;clear hE hv
       go_wp2_with (go_at_call 108;refine (aFw _ _ _ x _ _ (HX.out _ HBr) (by omega)).mono ?_;rintro e w' ⟨rfl,hb⟩;rw [HV.out];replace HBr:=HBr.trans hb;clear hb)
       go_ret;exact ⟨aA2 (by rw [HF.out,<- HQ.out];rfl),aA3 (HW.trans HBr)⟩
      .have HV:=aA1 hv
       obtain ⟨ok,oe⟩:=of;dsimp only at hE;rw [hE] at HQ;clear hE hv;cases hk:(ok==1) with
       | true =>
        rw [hk,Bool.true_and] at HQ;have hkb:(ok != 1)=false:=by rw [bne,hk];rfl
        clear hk
        go_wp2_with (first
         | (go_at_call 108;refine (aFw _ _ _ x _ _ (HX.out _ HBr) (by omega)).mono ?_;rintro e w' ⟨rfl,hb⟩;rw [HV.out];replace HBr:=HBr.trans hb;clear hb)
         | (go_at_call 109;refine (aY9 _ _ x _ _ (aAx p) _ _ (HX.out _ HBr) (HK.out _ (HB.trans HBr)) hle).mono ?_;rintro e w' ⟨rfl,hb⟩;rw [HOF.out];replace HBr:=HBr.trans hb;clear hb))
        go_roundg (l.length-(i+1))
        case rel=>exact ⟨i+1,by omega,rfl,by go_num,HQ,HB.trans HBr⟩
        case measure=>omega
       | false =>
        rw [hk,Bool.false_and] at HQ;have hkb:(ok != 1)=true:=by rw [bne,hk];rfl
        clear hk
        go_wp2_with (first
         | (go_at_call 108;refine (aFw _ _ _ x _ _ (HX.out _ HBr) (by omega)).mono ?_;rintro e w' ⟨rfl,hb⟩;rw [HV.out];replace HBr:=HBr.trans hb;clear hb)
         | (go_at_call 109;refine (aY9 _ _ x _ _ (aAx p) _ _ (HX.out _ HBr) (HK.out _ (HB.trans HBr)) hle).mono ?_;rintro e w' ⟨rfl,hb⟩;rw [HOF.out];replace HBr:=HBr.trans hb;clear hb))
        go_ret;exact ⟨aA2 (by rw [HF.out,<- HQ.out];rfl),aA3 (HW.trans HBr)⟩
     .have hd0:decide (i<l.length)=false:=by simpa using hlt
      obtain rfl:i=l.length:=by omega
      rw [List.drop_length] at HQ
      go_wp2_with fail
      go_ret;exact ⟨aA2 (by rw [HF.out,<- HQ.out];rfl),aA3 HW⟩
   .rw [decide_eq_false h6] at HF
    have d1:decide (l.length<1)=false:=decide_eq_false (by omega)
    have d1I:decide ((l.length:Int)<1)=false:=decide_eq_false (by omega)
    have d6:decide (6<l.length)=true:=decide_eq_true (by omega)
    have d6I:decide ((6:Int)<(l.length:Int))=true:=decide_eq_true (by omega)
    go_enter func54,ntmps54
    go_wp2_with (go_at_call 106;refine (aE7 _ p _ (HPV.out _ (aA3 HW)) HL.out).mono ?_;rintro e w' ⟨rfl,hb⟩;rw [hc];replace HW:=HW.trans hb;clear hb)
    go_ret;exact ⟨aA2 (by rw [HF.out];simp),aA3 HW⟩
  .rw [decide_eq_false h1] at HF
   have d1:decide (l.length<1)=true:=decide_eq_true (by omega)
   have d1I:decide ((l.length:Int)<1)=true:=decide_eq_true (by omega)
   go_enter func54,ntmps54
   go_wp2_with (go_at_call 106;refine (aE7 _ p _ (HPV.out _ (aA3 HW)) HL.out).mono ?_;rintro e w' ⟨rfl,hb⟩;rw [hc];replace HW:=HW.trans hb;clear hb)
   go_ret;exact ⟨aA2 (by rw [HF.out];rfl),aA3 HW⟩
end Go.Proofs.YtmifhmdghfbalaaGreatDoor

