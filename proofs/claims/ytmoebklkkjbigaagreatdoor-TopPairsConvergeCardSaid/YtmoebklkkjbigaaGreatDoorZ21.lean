/- Merged. -/
import Derived.Test.YtmoebklkkjbigaaGreatDoorZ18
set_option linter.unusedSimpArgs false
set_option linter.unnecessarySimpa false
set_option linter.unusedVariables false
set_option maxRecDepth 100000
set_option maxHeartbeats 4000000
open Go.Proofs.Tryz

namespace Go.Proofs.YtmoebklkkjbigaaGreatDoor
open Go.RowKit
def aPj (p:Prg) (g:Graph) (c:aA2) (S v:Nat):aA2:=(List.range c.length).map fun u=>if u<v/\S.testBit u=true then aFe p g c u else c.getD u []
theorem aJz (p:Prg) (g:Graph) (c:aA2) (S v:Nat):(aPj p g c S v).length=c.length:=by simp [aPj]
theorem aN1 (p:Prg) (g:Graph) (c:aA2) (S v:Nat) (i:Nat):(aPj p g c S v)[i]?=if i<c.length then some (if i<v/\S.testBit i=true then aFe p g c i else c.getD i []) else none:=by
 unfold aPj;rw [List.getElem?_map]
 by_cases h:i<c.length
 .rw [List.getElem?_range h,if_pos h];rfl
 .rw [if_neg h,List.getElem?_eq_none (by simp;omega)];rfl
theorem bFn (p:Prg) (g:Graph) (c:aA2) (S:Nat):aPj p g c S 0=c:=by
 apply List.ext_getElem?
 intro i
 rw [aN1]
 by_cases h:i<c.length
 .rw [if_pos h,if_neg (by omega),aA7 h,List.getElem?_eq_getElem h]
 .rw [if_neg h,List.getElem?_eq_none (by omega)]
theorem bFm (p:Prg) (g:Graph) (c:aA2) (S:Nat):aPj p g c S c.length=aAd p g c S:=by
 unfold aPj aAd;refine List.map_congr_left fun u hu=>?_
 rw [List.mem_range] at hu;cases hb:S.testBit u with
 | true=>rw [if_pos ⟨hu,rfl⟩,if_pos rfl]
 | false=>rw [if_neg (fun h=>by cases h.2),if_neg (by decide)]
theorem bJ3 {p:Prg} {g:Graph} {c:aA2} {S v:Nat} (hb:S.testBit v=true):(aPj p g c S v).set v (aFe p g c v)=aPj p g c S (v+1):=by
 apply List.ext_getElem?
 intro i
 rw [List.getElem?_set,aN1,aN1,aJz]
 by_cases he:v=i
 .subst he
  rw [if_pos rfl]
  by_cases h:v<c.length
  .rw [if_pos h,if_pos h,if_pos ⟨by omega,hb⟩]
  .rw [if_neg h,if_neg h]
 .rw [if_neg he]
  have e:(i<v/\S.testBit i=true)↔(i<v+1/\S.testBit i=true):=by
   constructor
   .rintro ⟨h,h'⟩;exact ⟨by omega,h'⟩
   .rintro ⟨h,h'⟩;exact ⟨by omega,h'⟩
  simp only [e]
theorem bMd {p:Prg} {g:Graph} {c:aA2} {S v:Nat} (hb:S.testBit v=false):aPj p g c S v=aPj p g c S (v+1):=by
 apply List.ext_getElem?
 intro i
 rw [aN1,aN1]
 have e:(i<v/\S.testBit i=true)↔(i<v+1/\S.testBit i=true):=by
  constructor
  .rintro ⟨h,h'⟩;exact ⟨by omega,h'⟩
  .rintro ⟨h,h'⟩
   refine ⟨?_,h'⟩
   have:i≠v:=by rintro rfl;rw [hb] at h';cases h'
   omega
 simp only [e]
theorem aSh (B:Nat) (p:Prg) (g:Graph) (vc:Value) (c:aA2) (S:Nat) (w:World) (hM:aEq w B p g) (hC:aD7 w vc c) (hm:aC0 p g c=0) (hS:S<4294967296) (hen:∀ v,v<c.length->S.testBit v=true->0<=aAk p.rules g c v) (hL:aCi p=true) (hCL:aI4 c=true) :
  Calls prog 135 #[.pointer (some ⟨B,0,none⟩),vc,.int .u32 (S:Int)] w (bGq (aAd p g c S) w):=by
 have HM:=aA0 (fun w' (k:Bel w w')=>hM.keep k);have HC:=aA0 (fun w' (k:Bel w w')=>hC.keep k);obtain ⟨AC,kc,rfl,_,_,_⟩:=hC;have hle:c.length<=24:=by rw [aBk hm];exact (aAm (aBr hm).1).2.1.le
 have HK:=aA0 (fun v (hv:v<c.length)=>aUu hm hv);have HMM:=aA0 hm;have HEN:=aA0 hen;have HL:=aA0 hL;have HCL:=aA0 hCL;clear hm hen hL hCL hM;have HW:=Bel.refl w;go_enter func135,ntmps135
 go_wp2_with (go_at_call 132;refine (aP7 _ c _ (HC.out _ HW) HCL.out).mono ?_;rintro e w' ⟨gb,cap,hs,rfl,hO,hsn,hb⟩;have HO:=aA0 hO;have HSN:=aA0 hsn;clear hsn;replace HW:=HW.trans hb;clear hb hO)
 go_loopg [8,13] c.length (fun m _x z wr=>∃ (v:Nat) (hs:List Value),v<=c.length/\m=c.length-v/\z = .int .i64 v/\Hid (OwnC wr w.heap.size gb cap (aPj p g c S v) hs)/\Hid (aLz w.heap.size wr hs)/\Bel w wr)
 case atStart=>exact ⟨0,hs,by omega,rfl,rfl,by show OwnC _ _ _ _ _ _;rw [bFn];exact HO.out,HSN,HW⟩
 case round =>
  clear HO HSN HW;obtain ⟨v,hs,hv,rfl,rfl,HO,HSN,HW⟩:=hrel
  by_cases hlt:v<c.length
  .have hd0:decide (v<c.length)=true:=by simpa using hlt
   cases hb:S.testBit v with
   | true =>
    have hq:bits .and .u32 ((S:Int) / 2 ^ v) 1=1:=by rw [bHa hS,hb];rfl
    have hf:=HEN.out v hlt hb;obtain ⟨k,hk⟩:=Int.eq_ofNat_of_zero_le hf;have hkl:k<p.rules.length:=by have:=(aP2 p.rules g c v).2;omega
    have HFK:=aA0 hk;have HPY:=aA0 (bJ3 (p:=p) (g:=g) (c:=c) hb);have HMF:Hid (aFe p g c v=aD9 p g c v p.rules[k].sets):=by show _=_;unfold aFe;rw [hk,aN3 hkl]
    have HSL:Hid (hs.length=c.length):=by have:=HO.out.own.1;rw [aJz] at this;show _=_;omega
    clear hf hk hb
    go_wp2_with (first
     | (go_at_call 82;refine (aGh B p g _ c v _ (HM.out _ HW) (HC.out _ HW) (HK.out v hlt) HL.out).mono ?_;rintro e w' ⟨rfl,hbb⟩;rw [HFK.out];replace HW:=HW.trans hbb;replace HO:=aA0 (HO.out.keep hbb);replace HSN:=aA0 (HSN.out.size hbb.size);clear hbb)
     | (go_at_call 83;refine (aMq B p g _ c v k _ (HM.out _ HW) (HC.out _ HW) HMM.out hlt hkl HL.out HCL.out).mono ?_;rintro e w' ⟨R,rc,rfl,hN,hbb⟩;have hgb:=(aAb HO.out.own).2;have HWZ:=aA0 HW.size;have HN:=aA0 hN;replace HW:=HW.trans hbb;replace HO:=aA0 (HO.out.keep hbb);replace HSN:=aA0 (HSN.out.size hbb.size);have y1:=aE4 HO.out.own v (by rw [HSL.out];omega);have y2:=HO.out.own.frozenAt v;have ygb:=(aAb HO.out.own).2;clear hbb hN))
    go_roundg (c.length-(v+1))
    case rel =>
     refine ⟨v+1,hs.set v (.slice R (aD9 p g c v p.rules[k].sets).length rc),by omega,rfl,by go_num,?_,(HSN.out.set HN.out HWZ.out v).size (by simp),HW.setCell (by have:=aAb HO.out.own;simp;omega) _⟩
     have h3:=HN.out;show OwnC _ _ _ _ _ _
     rw [<- HPY.out,HMF.out];exact HO.out.set (v:=v) (by rw [aJz];exact hlt) h3.1 h3.2.1 h3.2.2.1 (h3.off (by omega))
    case measure=>omega
   | false =>
    have hq:bits .and .u32 ((S:Int) / 2 ^ v) 1=0:=by rw [bHa hS,hb];rfl
    have HPN:=aA0 (bMd (p:=p) (g:=g) (c:=c) hb);clear hb
    go_wp2_with fail
    go_roundg (c.length-(v+1))
    case rel=>exact ⟨v+1,hs,by omega,rfl,by go_num,by show OwnC _ _ _ _ _ _;rw [<- HPN.out];exact HO.out,HSN,HW⟩
    case measure=>omega
  .have hd0:decide (v<c.length)=false:=by simpa using hlt
   obtain rfl:v=c.length:=by omega
   go_wp2_with fail
   go_ret;have hO:=HO.out;rw [bFm] at hO;exact ⟨gb,cap,hs,by rw [aBe];rfl,hO,HSN.out,HW⟩
theorem aZh.nil (w:World) (B:Nat):aZh w B none 0 []:=⟨aAc.nil,Nat.le_refl _,by unfold maxLen;simp,fun b o e=>by cases e⟩
theorem aD7.nil (w:World):aD7 w (.slice none 0 0) []:=⟨none,0,rfl,aAc.nil,Nat.le_refl _,by unfold maxLen;omega⟩
theorem aAc.one {α:Type} {size:Nat} {E:World->Nat->Nat->α->Prop} {w:World} {b:Nat} {x:α} (hb:b<w.heap.size) (h:E w b 0 x):aAc size E w (some ⟨b,0,none⟩) 1 [x] :=
 ⟨rfl,fun i y hy=>by
  match i,hy with
  | 0,hy =>
   obtain rfl:x=y:=by simpa using hy
   exact ⟨b,0,rfl,hb,by rw [Nat.zero_mul];exact h⟩
  | i+1,hy=>simp at hy⟩
theorem aAc.two {α:Type} {size:Nat} {E:World->Nat->Nat->α->Prop} {w:World} {b:Nat} {x y:α} (hb:b<w.heap.size) (h:E w b 0 x) (h2:E w b size y):aAc size E w (some ⟨b,0,none⟩) 2 [x,y] :=
 ⟨rfl,fun i z hz=>by
  match i,hz with
  | 0,hz =>
   obtain rfl:x=z:=by simpa using hz
   exact ⟨b,0,rfl,hb,by rw [Nat.zero_mul];exact h⟩
  | 1,hz =>
   obtain rfl:y=z:=by simpa using hz
   exact ⟨b,0,rfl,hb,by rw [Nat.one_mul,Nat.zero_add];exact h2⟩
  | i+2,hz=>simp at hz⟩
theorem aZ3 {p:Prg} {g:Graph} {c:aA2} {T:Nat} (hm:aC0 p g c=0) (h0:T≠0) (hw:aB1 T (aAe p g c)=true):bDp p g c T=(aAd p g c T,0):=by
 unfold bDp;rw [if_neg (by simpa using hm),if_neg (by rw [hw];simpa using h0)]
theorem aNm {p:Prg} {g:Graph} {c:aA2} (hm:aC0 p g c=0) (hL:aCi p=true):aI4 c=true:=by
 have hf:=(aBr hm).1;have hg:=(aAm hf).2.1;have hcl:=aBk hm;have hle:=hg.le;have hv10:=(aBn hL).2.1;unfold aI4;rw [Bool.and_eq_true,decide_eq_true_eq,List.all_eq_true];refine ⟨by omega,fun r hr=>?_⟩
 obtain ⟨v,hv,rfl⟩:=List.getElem_of_mem hr;have hvt:v<(aAa p g).length:=by rw [aAs,hg.ids,<- hcl];exact hv
 have:=aKq ((aR1.1 (aR7 hm)).2 v hv hvt);rw [aTr hvt] at this;simp;omega
def aCn (n k:Nat) (f:Nat->Nat):List Value:=(List.range n).map fun u=>Value.int .u32 ((if u<k then f u else 0:Nat):Int)
theorem aUt (n:Nat) (f:Nat->Nat):aCn n 0 f=List.replicate n (.int .u32 0):=by
 apply List.ext_getElem
 .simp [aCn]
 .intro i h1 h2;simp [aCn]
theorem aR6 (n k:Nat) (f:Nat->Nat):(aCn n k f).length=n:=by simp [aCn]
theorem aY6 (n k:Nat) (f:Nat->Nat):(aCn n k f).set k (.int .u32 (f k:Int))=aCn n (k+1) f:=by
 apply List.ext_getElem
 .simp [aCn]
 .intro i h1 h2
  rw [List.getElem_set]
  by_cases h:k=i
  .subst h;rw [if_pos rfl];simp [aCn]
  .rw [if_neg h]
   simp only [aCn,List.getElem_map,List.getElem_range]
   by_cases hi:i<k
   .rw [if_pos hi,if_pos (by omega)]
   .rw [if_neg hi,if_neg (by omega)]
theorem bAo {n k:Nat} {f:Nat->Nat} {u:Nat} (hu:u<k) (hn:u<n):(aCn n k f)[u]?=some (.int .u32 (f u:Int)):=by
 unfold aCn;rw [List.getElem?_map,List.getElem?_range hn];simp [hu]
theorem bC6 {p:Prg} {g:Graph} {kind:Int} {c:aA2} (h5:g.ports.length<=5) (hc:c.length=g.ports.length):(aFg p g kind c).length<=31:=by
 unfold aFg;rw [List.length_map];refine (aCf ?_).2.1
 have h1:=aVs c.length (fun u=>decide (0<=aAk p.rules g c u));have h2:2 ^ c.length<=2 ^ 5:=Nat.pow_le_pow_right (by decide) (by omega)
 unfold aAe;omega
theorem aLs {B N:Nat} {w w':World} {e:TypeId} {size n:Nat} {v:Value} {xs:List Value} (h:w.ownsRow N e size v n xs) (k:But B w w') (hB:B<N):w'.ownsRow N e size v n xs:=by
 refine ⟨h.1,?_⟩
 rcases h.2 with hn | ⟨g,cap,cur,hv,hb,hg,hr⟩
 .exact .inl hn
 .refine .inr ⟨g,cap,cur,hv,hb,?_,hr⟩
  rw [k.block g (lt_of_block hg) (by omega)];exact hg
theorem TmO.mk {N:Nat} {w:World} {A:Option Addr} {c:Nat} {l:List Term} (h:w.ownsRow N 235 2 (.slice A l.length c) l.length (tmC l)):TmO N w (.slice A l.length c) l:=⟨A,c,rfl,h⟩
theorem TmO.but {B N:Nat} {w w':World} {v:Value} {l:List Term} (h:TmO N w v l) (k:But B w w') (hB:B<N):TmO N w' v l:=by
 obtain ⟨A,c,e,h⟩:=h;exact ⟨A,c,e,aLs h k hB⟩
theorem TmO.bel {N:Nat} {w w':World} {v:Value} {l:List Term} (h:TmO N w v l) (k:Bel w w'):TmO N w' v l:=by
 obtain ⟨A,c,e,h⟩:=h;exact ⟨A,c,e,k.owns h⟩
theorem TmO.low {N M:Nat} {w:World} {v:Value} {l:List Term} (h:TmO N w v l) (hM:M<=N):TmO M w v l:=by
 obtain ⟨A,c,e,h⟩:=h;exact ⟨A,c,e,aB9 h hM⟩
theorem TmO.row {N:Nat} {w:World} {v:Value} {l:List Term} (h:TmO N w v l) {b o:Nat} (hc:w.cell? ⟨b,o,none⟩=some v):aGd 2 aH9 w b o l:=by
 obtain ⟨A,c,rfl,h⟩:=h;obtain ⟨c1,c2⟩:=aCv h;exact ⟨A,c,hc,aRk h,c1,c2⟩
theorem bMy:(prog.info? 235).map (fun i=>(i.zero,i.size,i.bytes))=some (some (.agg #[.int .i64 0,.int .i64 0]),2,16):=by kernel_rfl
def aZn (op:Nat) (L:List (List Term)) (k:Nat):List Term:=aL1 op 0++(L.take k).flatten
theorem aWe {op:Nat} {L:List (List Term)} {k:Nat} (h:k<L.length):aZn op L (k+1)=aZn op L k++L[k]:=by
 unfold aZn;rw [List.take_succ_eq_append_getElem h,List.flatten_append,List.append_assoc];simp
theorem bNm {op:Nat} {L:List (List Term)} {k:Nat}:(aZn op L k).length<=(aW9 op L).length:=by
 unfold aZn aW9;rw [List.length_append,List.length_append];have:L.flatten=(L.take k).flatten++(L.drop k).flatten:=by rw [<- List.flatten_append,List.take_append_drop]
 rw [this,List.length_append];omega
theorem aWd (op:Nat) (L:List (List Term)):aZn op L L.length=aW9 op L:=by unfold aZn aW9;rw [List.take_length]
theorem aEa (op:Nat) (OA:Option Addr) (oc:Nat) (L:List (List Term)) (w:World) (h:aAc 1 (aGd 2 aH9) w OA L.length L) (hl:L.length<=10) (hn:(aW9 op L).length<=100000) :
  Calls prog 142 #[.int .i64 (op:Int),.slice OA L.length oc] w fun e w'=>(∃ v,e = .returned v/\TmO w.heap.size w' v (aW9 op L))/\Bel w w':=by
 have H:=aA0 (fun w' (k:Bel w w')=>aAc.keep (aGd.keeps aH9.keeps) h k);obtain ⟨j0,hj0,hj1,hj2,hj3⟩:=aBy bMy;clear h;go_enter func142,ntmps142
 go_wp2_with (go_at_call 167;refine (aFo op 0 _).mono ?_;rintro e w1 ⟨⟨v,rfl,A0,c0,rfl,hO⟩,hb⟩;have HO:=aA0 hO;have HB:=aA0 hb;clear hO hb)
 go_loopg [5,7,12] L.length (fun m av _x z wr=>∃ (k:Nat) (A:Option Addr) (c:Nat),k<=L.length/\m=L.length-k/\av = .slice A (aZn op L k).length c/\z = .int .i64 k/\Hid (wr.ownsRow w.heap.size 235 2 (.slice A (aZn op L k).length c) (aZn op L k).length (tmC (aZn op L k)))/\Bel w wr)
 case atStart=>exact ⟨0,A0,c0,by omega,rfl,by simp [aZn],rfl,by simpa [aZn] using HO,HB.out⟩
 case round =>
  obtain ⟨k,A,c,hk,rfl,rfl,rfl,HOk,hbel⟩:=hrel
  by_cases hlt:k<L.length
  .have hd0:decide (k<L.length)=true:=by simpa using hlt
   obtain ⟨b,o,R,rc,rfl,hb,hc,hR,hr1,hr2⟩:=RowsAt.at_ (H.out wr hbel) k hlt;have HR:=aA0 (aCd.cells hR);have hle:=bNm (op:=op) (L:=L) (k:=k+1);rw [aWe hlt,List.length_append] at hle;have HS:=aA0 (aWe (op:=op) hlt);clear hR;have hbs:=hbel.size;generalize hX:aZn op L k=X at *
   go_wp2_with (at_builtin;go_loud (refine aIy _ rfl (.tmp 16) (.tmp 17) 134 rfl w.heap.size 235 j0 (.agg #[.int .i64 0,.int .i64 0]) 2 16 underlying134 hj0 hj1 hj2 hj3 rfl (by decide) A X.length c (tmC X) (by simp [Act.eval]) HOk.out R L[k].length rc (tmC L[k]) (by simp [Act.eval]) HR.out (aW2 _) (by unfold maxLen;omega) (by omega) hbs ?_;intro A' c' w2 hown2 hgr2 _;have hb2:Bel w w2:=hbel.push HOk.out hgr2;have HO2:=aA0 hown2;clear hown2 hgr2))
   go_roundg (L.length-(k+1))
   case rel =>
    refine ⟨k+1,A',c',by omega,rfl,?_,by go_num,?_,hb2⟩
    .rw [HS.out];simp
    .show w2.ownsRow _ _ _ _ _ _
     rw [HS.out,bGd,List.length_append];exact HO2.out
   case measure=>omega
  .have hd0:decide (k<L.length)=false:=by simpa using hlt
   obtain rfl:k=L.length:=by omega
   go_wp2;go_ret;have hO:=HOk.out;refine ⟨⟨.slice A (aZn op L L.length).length c,rfl,A,c,by rw [aWd],?_⟩,hbel⟩
   rw [aWd] at hO ⊢;exact hO
def aTx (B:Nat) (T:ByteArray) (r:List Tok) (l:List Term) (v2 v3 v4 v5 v6:Value) (w:World) (e:Ending) (w':World):Prop :=
 (∃ v,e = .returned v/\TmO w.heap.size w' v l)/\But B w w'/\RdX w' B T r v2 v3 v4 v5 v6
structure ReadOK (T:ByteArray) (N:List Wd) (n:Nat):Prop where
 choice:∀ {w:World} {B:Nat} {ts r:List Tok} {l:List Term} {v2 v3 v4 v5 v6:Value},RdX w B T ts v2 v3 v4 v5 v6->NmR B w v2 N->aCc (aA4 T) N n .choice ts=some (l,r)->l.length<=1000 ->
  Calls prog 110 #[.pointer (some ⟨B,0,none⟩)] w (aTx B T r l v2 v3 v4 v5 v6 w)
 bin:∀ {w:World} {B:Nat} {ts r:List Tok} {l:List Term} {v2 v3 v4 v5 v6:Value} {lv:Nat},lv<=6->RdX w B T ts v2 v3 v4 v5 v6->NmR B w v2 N->aCc (aA4 T) N n (.bin lv) ts=some (l,r)->l.length<=1000 ->
  Calls prog 141 #[.pointer (some ⟨B,0,none⟩),.int .i64 (lv:Int)] w (aTx B T r l v2 v3 v4 v5 v6 w)
 unary:∀ {w:World} {B:Nat} {ts r:List Tok} {l:List Term} {v2 v3 v4 v5 v6:Value},RdX w B T ts v2 v3 v4 v5 v6->NmR B w v2 N->aCc (aA4 T) N n .unary ts=some (l,r)->l.length<=1000 ->
  Calls prog 164 #[.pointer (some ⟨B,0,none⟩)] w (aTx B T r l v2 v3 v4 v5 v6 w)
 primary:∀ {w:World} {B:Nat} {ts r:List Tok} {l:List Term} {v2 v3 v4 v5 v6:Value},RdX w B T ts v2 v3 v4 v5 v6->NmR B w v2 N->aCc (aA4 T) N n .primary ts=some (l,r)->l.length<=1000 ->
  Calls prog 181 #[.pointer (some ⟨B,0,none⟩)] w (aTx B T r l v2 v3 v4 v5 v6 w)
theorem aHj (op:Nat) (L:List (List Term)):(aW9 op L).length=1+L.flatten.length:=by unfold aW9 aL1;simp;omega
theorem aUy {T:Wd} {N:List Wd}:∀ {n lv:Nat} {a l:List Term} {ts r:List Tok},aCc T N n (.more lv a) ts=some (l,r)->a.length<=l.length
 | 0,lv,a,l,ts,r,h=>by simp [aCc] at h
 | n+1,lv,a,l,ts,r,h=>by
  rw [aCc] at h;split at h
  .injection h with h;injection h with h1 h2;rw [h1];exact Nat.le_refl _
  .rw [Option.bind_eq_some_iff] at h
   obtain ⟨⟨b,t1⟩,_,h⟩:=h;dsimp only at h;split at h
   .injection h with h;injection h with h1 h2;rw [<- h1,aHj];simp;omega
   .have:=aUy h
    rw [aHj] at this;simp at this
    omega
theorem hs1 {w:World} {N:Nat} {v:Value} {l:List Term} {t:TypeId} (h:TmO N w v l):aAc 1 (aGd 2 aH9) (w.alloc (.cells #[v] t)) (some ⟨w.heap.size,0,none⟩) 1 [l]:=by
 have hb:Blk (w.alloc (.cells #[v] t)) w.heap.size #[v] t:=Blk.new w _ _;refine ⟨rfl,fun i x hx=>⟨w.heap.size,0,rfl,by simp,?_⟩⟩
 match i,hx with
 | 0,hx =>
  simp at hx;subst hx
  exact (h.bel ((Bel.refl w).alloc _)).row (hb.cell 0 rfl)
 | i+1,hx=>simp at hx
theorem hs2 {w:World} {N M:Nat} {u v:Value} {k l:List Term} {t:TypeId} (h0:TmO M w u k) (h:TmO N w v l):aAc 1 (aGd 2 aH9) (w.alloc (.cells #[u,v] t)) (some ⟨w.heap.size,0,none⟩) 2 [k,l]:=by
 have hb:Blk (w.alloc (.cells #[u,v] t)) w.heap.size #[u,v] t:=Blk.new w _ _;refine ⟨rfl,fun i x hx=>⟨w.heap.size,0,rfl,by simp,?_⟩⟩
 match i,hx with
 | 0,hx =>
  simp at hx;subst hx
  exact (h0.bel ((Bel.refl w).alloc _)).row (hb.cell 0 rfl)
 | 1,hx =>
  simp at hx;subst hx
  exact (h.bel ((Bel.refl w).alloc _)).row (hb.cell 1 rfl)
 | i+2,hx=>simp at hx
theorem hs3 {w:World} {N M K:Nat} {x u v:Value} {j k l:List Term} {t:TypeId} (h1:TmO K w x j) (h0:TmO M w u k) (h:TmO N w v l):aAc 1 (aGd 2 aH9) (w.alloc (.cells #[x,u,v] t)) (some ⟨w.heap.size,0,none⟩) 3 [j,k,l]:=by
 have hb:Blk (w.alloc (.cells #[x,u,v] t)) w.heap.size #[x,u,v] t:=Blk.new w _ _;refine ⟨rfl,fun i y hx=>⟨w.heap.size,0,rfl,by simp,?_⟩⟩
 match i,hx with
 | 0,hx =>
  simp at hx;subst hx
  exact (h1.bel ((Bel.refl w).alloc _)).row (hb.cell 0 rfl)
 | 1,hx =>
  simp at hx;subst hx
  exact (h0.bel ((Bel.refl w).alloc _)).row (hb.cell 1 rfl)
 | 2,hx =>
  simp at hx;subst hx
  exact (h.bel ((Bel.refl w).alloc _)).row (hb.cell 2 rfl)
 | i+3,hx=>simp at hx
theorem aVk {T:ByteArray} {N:List Wd} {n:Nat} (IH:ReadOK T N n) {w:World} {B:Nat} {ts r:List Tok} {l:List Term} {v2 v3 v4 v5 v6:Value} (h:RdX w B T ts v2 v3 v4 v5 v6) (hN:NmR B w v2 N) (hr:aCc (aA4 T) N (n+1) .choice ts=some (l,r)) (hl:l.length<=1000) :
  Calls prog 110 #[.pointer (some ⟨B,0,none⟩)] w (aTx B T r l v2 v3 v4 v5 v6 w):=by
 have hB:B<w.heap.size:=by obtain ⟨_,_,h⟩:=h;exact h.lt
 rw [aCc,Option.bind_eq_some_iff] at hr;obtain ⟨⟨c,t1⟩,hc,hr⟩:=hr;dsimp only at hr;have HH:=aA0 h;have HN:=aA0 hN;have HC:=aA0 hc;have HIH:=aA0 IH;clear h hN hc IH;cases ha:aAh (aA4 T) [63] t1 with
 | none =>
  rw [ha] at hr;injection hr with hr
  injection hr with hr1 hr2
  subst hr1;subst hr2;have HA:=aA0 ha;clear ha;go_enter func110,ntmps110
  go_wp2_with (first
   | (go_at_call 141;refine (HIH.out.bin (lv:=1) (by omega) HH.out HN.out HC.out hl).mono ?_;rintro e w1 ⟨⟨_,rfl,Ac,cc,rfl,hv⟩,hb,hx⟩;have HV:=aA0 (TmO.mk hv);have HB:=aA0 hb;have HX:=aA0 hx;clear hv hb hx)
   | (go_at_call 103;refine (aBu HX.out { data:=#[63] } HA.out).mono ?_;rintro e w2 ⟨rfl,hb,hx⟩;have HB2:=aA0 hb;have HX2:=aA0 hx;clear hb hx))
  go_ret;exact ⟨⟨_,rfl,HV.out.but HB2.out hB⟩,HB.out.trans HB2.out,HX2.out⟩
 | some t2 =>
  rw [ha] at hr;dsimp only at hr;rw [Option.bind_eq_some_iff] at hr;obtain ⟨⟨y,t3⟩,hy,hr⟩:=hr;dsimp only at hr;rw [Option.bind_eq_some_iff] at hr;obtain ⟨t4,hco,hr⟩:=hr;rw [Option.bind_eq_some_iff] at hr;obtain ⟨⟨z,t5⟩,hz,hr⟩:=hr;injection hr with hr
  injection hr with hr1 hr2
  subst hr1;subst hr2;have hll:=hl;rw [aHj] at hll;simp at hll
  have HA:=aA0 ha;have HY:=aA0 hy;have HCO:=aA0 hco;have HZ:=aA0 hz;clear ha hy hco hz;go_enter func110,ntmps110
  go_wp2_with (first
   | (go_at_call 141;refine (HIH.out.bin (lv:=1) (by omega) HH.out HN.out HC.out (by omega)).mono ?_;rintro e w1 ⟨⟨_,rfl,Ac,cc,rfl,hv⟩,hb,hx⟩;have HV:=aA0 (TmO.mk hv);have HB:=aA0 hb;have HX:=aA0 hx;clear hv hb hx)
   | (go_at_call 103;refine (aC2 HX.out { data:=#[63] } (by decide) HA.out).mono ?_;rintro e w2 ⟨rfl,hb,hx⟩;have HV2:=aA0 (HV.out.but hb hB);have HB2:=aA0 (HB.out.trans hb);have HN2:=aA0 (HN.out.but HB2.out);have HX2:=aA0 hx;have hB2:=Nat.lt_of_lt_of_le hB HB2.out.size;clear hb hx)
   | (go_at_call 110;refine (HIH.out.choice HX2.out HN2.out HY.out (by omega)).mono ?_;rintro e w3 ⟨⟨_,rfl,Ay,cy,rfl,hv⟩,hb,hx⟩;have HV3:=aA0 (HV2.out.but hb hB);have HY3:=aA0 (TmO.mk hv);have HB3:=aA0 (HB2.out.trans hb);have HX3:=aA0 hx;clear hv hb hx)
   | (go_at_call 56;refine (aC9 HX3.out { data:=#[58] } (by decide) HCO.out).mono ?_;rintro e w4 ⟨⟨x,rfl⟩,hb,hx⟩;have HV4:=aA0 (HV3.out.but hb hB);have HY4:=aA0 (HY3.out.but hb hB2);have HB4:=aA0 (HB3.out.trans hb);have HN4:=aA0 (HN.out.but HB4.out);have HX4:=aA0 hx;have hB4:=Nat.lt_of_lt_of_le hB HB4.out.size;clear hb hx)
   | (go_at_call 110;refine (HIH.out.choice HX4.out HN4.out HZ.out (by omega)).mono ?_;rintro e w5 ⟨⟨_,rfl,Az,cz,rfl,hv⟩,hb,hx⟩;have HS:=aA0 (hs3 (t:=134) (HV4.out.but hb hB) (HY4.out.but hb hB2) (TmO.mk hv));have HB5:=aA0 (HB4.out.trans hb);have HX5:=aA0 hx;clear hv hb hx)
   | (go_at_call 142;refine (aEa 43 _ 3 [c,y,z] _ HS.out (by simp) (by omega)).mono ?_;rintro e w6 ⟨⟨v,rfl,hv⟩,hb⟩;have HV6:=aA0 hv;have HB6:=aA0 (((Bel.refl w5).alloc (.cells #[.slice Ac c.length cc,.slice Ay y.length cy,.slice Az z.length cz] 134)).trans hb);clear hv hb))
  go_ret;exact ⟨⟨_,rfl,HV6.out.low (by have:=HB5.out.size;simp;omega)⟩,HB5.out.trans (But.of_bel HB6.out),HX5.out.bel HB6.out⟩
theorem bGi {T:ByteArray} {N:List Wd} {n:Nat} (IH:ReadOK T N n) {w:World} {B:Nat} {ts r:List Tok} {l:List Term} {v2 v3 v4 v5 v6:Value} (h:RdX w B T ts v2 v3 v4 v5 v6) (hN:NmR B w v2 N) (hr:aCc (aA4 T) N (n+1) .unary ts=some (l,r)) (hl:l.length<=1000) :
  Calls prog 164 #[.pointer (some ⟨B,0,none⟩)] w (aTx B T r l v2 v3 v4 v5 v6 w):=by
 have hB:B<w.heap.size:=by obtain ⟨_,_,h⟩:=h;exact h.lt
 rw [aCc] at hr;have HH:=aA0 h;have HN:=aA0 hN;have HIH:=aA0 IH;clear h hN IH;cases ha:aAh (aA4 T) [45] ts with
 | some t1 =>
  rw [ha] at hr;dsimp only at hr;rw [Option.bind_eq_some_iff] at hr;obtain ⟨⟨a,t2⟩,hy,hr⟩:=hr;injection hr with hr
  injection hr with hr1 hr2
  subst hr1;subst hr2;have hll:=hl;rw [aHj] at hll;simp at hll
  have HA:=aA0 ha;have HY:=aA0 hy;clear ha hy;have CHA:=aA0 (fun (w0:World) (hx:RdX w0 B T ts v2 v3 v4 v5 v6)=>aC2 hx { data:=#[45] } (by decide) HA.out)
  go_enter func164,ntmps164
  go_wp2_with (first
   | (go_at_call 103;with_reducible refine (CHA.out _ HH.out).mono ?_;rintro e w1 ⟨rfl,hb,hx⟩;have HB:=aA0 hb;have HN1:=aA0 (HN.out.but hb);have HX:=aA0 hx;clear hb hx)
   | (go_at_call 164;refine (HIH.out.unary HX.out HN1.out HY.out (by omega)).mono ?_;rintro e w2 ⟨⟨_,rfl,Ac,cc,rfl,hv⟩,hb,hx⟩;have HS:=aA0 (hs1 (t:=134) (TmO.mk hv));have HB2:=aA0 (HB.out.trans hb);have HX2:=aA0 hx;clear hv hb hx)
   | (go_at_call 142;refine (aEa 18 _ 1 [a] _ HS.out (by simp) (by omega)).mono ?_;rintro e w6 ⟨⟨v,rfl,hv⟩,hb⟩;have HV6:=aA0 hv;have HB6:=aA0 (((Bel.refl w2).alloc (.cells #[.slice Ac a.length cc] 134)).trans hb);clear hv hb))
  go_ret;exact ⟨⟨_,rfl,HV6.out.low (by have:=HB2.out.size;simp;omega)⟩,HB2.out.trans (But.of_bel HB6.out),HX2.out.bel HB6.out⟩
 | none =>
  rw [ha] at hr;dsimp only at hr;cases ha2:aAh (aA4 T) [33] ts with
  | some t1 =>
   rw [ha2] at hr;dsimp only at hr;rw [Option.bind_eq_some_iff] at hr;obtain ⟨⟨a,t2⟩,hy,hr⟩:=hr;injection hr with hr
   injection hr with hr1 hr2
   subst hr1;subst hr2;have hll:=hl;rw [aHj] at hll;simp at hll
   have HA:=aA0 ha;have HA2:=aA0 ha2;have HY:=aA0 hy;clear ha hy ha2;have CHA:=aA0 (fun (w0:World) (hx:RdX w0 B T ts v2 v3 v4 v5 v6)=>aBu hx { data:=#[45] } HA.out);have CHA2:=aA0 (fun (w0:World) (hx:RdX w0 B T ts v2 v3 v4 v5 v6)=>aC2 hx { data:=#[33] } (by decide) HA2.out)
   go_enter func164,ntmps164
   go_wp2_with (first
    | (go_at_call 103;with_reducible refine (CHA.out _ HH.out).mono ?_;rintro e w0 ⟨rfl,hb,hx⟩;have HB0:=aA0 hb;have HX0:=aA0 hx;clear hb hx)
    | (go_at_call 103;with_reducible refine (CHA2.out _ HX0.out).mono ?_;rintro e w1 ⟨rfl,hb,hx⟩;have HB:=aA0 (HB0.out.trans hb);have HN1:=aA0 (HN.out.but HB.out);have HX:=aA0 hx;clear hb hx)
    | (go_at_call 164;refine (HIH.out.unary HX.out HN1.out HY.out (by omega)).mono ?_;rintro e w2 ⟨⟨_,rfl,Ac,cc,rfl,hv⟩,hb,hx⟩;have HS:=aA0 (hs1 (t:=134) (TmO.mk hv));have HB2:=aA0 (HB.out.trans hb);have HX2:=aA0 hx;clear hv hb hx)
    | (go_at_call 142;refine (aEa 19 _ 1 [a] _ HS.out (by simp) (by omega)).mono ?_;rintro e w6 ⟨⟨v,rfl,hv⟩,hb⟩;have HV6:=aA0 hv;have HB6:=aA0 (((Bel.refl w2).alloc (.cells #[.slice Ac a.length cc] 134)).trans hb);clear hv hb))
   go_ret;exact ⟨⟨_,rfl,HV6.out.low (by have:=HB2.out.size;simp;omega)⟩,HB2.out.trans (But.of_bel HB6.out),HX2.out.bel HB6.out⟩
  | none =>
   rw [ha2] at hr;dsimp only at hr;have HA:=aA0 ha;have HA2:=aA0 ha2;have HY:=aA0 hr;clear ha hr ha2;have CHA:=aA0 (fun (w0:World) (hx:RdX w0 B T ts v2 v3 v4 v5 v6)=>aBu hx { data:=#[45] } HA.out);have CHA2:=aA0 (fun (w0:World) (hx:RdX w0 B T ts v2 v3 v4 v5 v6)=>aBu hx { data:=#[33] } HA2.out);go_enter func164,ntmps164
   go_wp2_with (first
    | (go_at_call 103;with_reducible refine (CHA.out _ HH.out).mono ?_;rintro e w0 ⟨rfl,hb,hx⟩;have HB0:=aA0 hb;have HX0:=aA0 hx;clear hb hx)
    | (go_at_call 103;with_reducible refine (CHA2.out _ HX0.out).mono ?_;rintro e w1 ⟨rfl,hb,hx⟩;have HB:=aA0 (HB0.out.trans hb);have HN1:=aA0 (HN.out.but HB.out);have HX:=aA0 hx;clear hb hx)
    | (go_at_call 181;refine (HIH.out.primary HX.out HN1.out HY.out (by omega)).mono ?_;rintro e w2 ⟨⟨v,rfl,hv⟩,hb,hx⟩;have HV2:=aA0 hv;have HB2:=aA0 (HB.out.trans hb);have HX2:=aA0 hx;clear hv hb hx))
   go_ret;exact ⟨⟨_,rfl,HV2.out.low HB.out.size⟩,HB2.out,HX2.out⟩
def bIj (T:Wd) (N:List Wd) (t1:List Tok):Option (List Term × List Tok) :=
 match aAh T [46] t1 with
 | none=>some (aL1 11 0,t1)
 | some t2=>if bAa (aBa T t2)≠0 then some (aL1 (bAa (aBa T t2)) 0,t2.tail) else (aFb T N t2).bind fun (x,t3)=>some (aL1 12 x,t3)
theorem bO0 {T:Wd} {ts:List Tok} (h:bAa (aBa T ts)≠0):∃ t r,ts=t :: r:=by
 cases ts with
 | nil=>exact absurd rfl h
 | cons t r=>exact ⟨t,r,rfl⟩
theorem aPt (w:Wd) (f:Nat) (l:List Wd):aG7 w f l<=f+l.length:=by
 unfold aG7;split
 .omega
 .split
  .rename_i i hi
   obtain ⟨h,_⟩:=List.findIdx?_eq_some_iff_getElem.1 hi;omega
  .omega
theorem bIk {T:ByteArray} {N:List Wd} {w:World} {B:Nat} {ts r:List Tok} {l:List Term} {v2 v3 v4 v5 v6:Value} (h:RdX w B T ts v2 v3 v4 v5 v6) (hN:NmR B w v2 N) (hNl:N.length<=1000) (hr:bIj (aA4 T) N ts=some (l,r)) :
  Calls prog 191 #[.pointer (some ⟨B,0,none⟩)] w (aTx B T r l v2 v3 v4 v5 v6 w):=by
 have hB:B<w.heap.size:=by obtain ⟨_,_,h⟩:=h;exact h.lt
 unfold bIj at hr;have HH:=aA0 h;have HN:=aA0 hN;clear h hN;cases ha:aAh (aA4 T) [46] ts with
 | none =>
  rw [ha] at hr;injection hr with hr
  injection hr with hr1 hr2
  subst hr1;subst hr2;have HA:=aA0 ha;clear ha;have CHA:=aA0 (fun (w0:World) (hx:RdX w0 B T ts v2 v3 v4 v5 v6)=>aBu hx { data:=#[46] } HA.out);go_enter func191,ntmps191
  go_wp2_with (first
   | (go_at_call 103;with_reducible refine (CHA.out _ HH.out).mono ?_;rintro e w0 ⟨rfl,hb,hx⟩;have HB0:=aA0 hb;have HX0:=aA0 hx;clear hb hx)
   | (go_at_call 167;refine (aFo 11 0 _).mono ?_;rintro e w1 ⟨⟨v,rfl,hv⟩,hb⟩;have HV:=aA0 hv;have HB:=aA0 hb;clear hv hb))
  go_ret;exact ⟨⟨_,rfl,HV.out.low HB0.out.size⟩,HB0.out.trans (But.of_bel HB.out),HX0.out.bel HB.out⟩
 | some t2 =>
  rw [ha] at hr;dsimp only at hr;obtain ⟨op,hop⟩:∃ op,bAa (aBa (aA4 T) t2)=op:=⟨_,rfl⟩;rw [hop] at hr
  by_cases h0:op=0
  .rw [if_neg (by omega),Option.bind_eq_some_iff] at hr
   obtain ⟨⟨x,t3⟩,hv,hr⟩:=hr;injection hr with hr
   injection hr with hr1 hr2
   subst hr1;subst hr2;subst h0;have HA:=aA0 ha;have HV:=aA0 hv;have HO:=aA0 hop;clear ha hv hop;have CHA:=aA0 (fun (w0:World) (hx:RdX w0 B T ts v2 v3 v4 v5 v6)=>aC2 hx { data:=#[46] } (by decide) HA.out)
   go_enter func191,ntmps191
   go_wp2_with (first
    | (go_at_call 103;with_reducible refine (CHA.out _ HH.out).mono ?_;rintro e w0 ⟨rfl,hb,hx⟩;have HB0:=aA0 hb;have HX0:=aA0 hx;clear hb hx)
    | (go_at_call 104;refine (aC1 HX0.out).mono ?_;rintro e w1 ⟨rfl,hb⟩;have HB1:=aA0 (HB0.out.trans (But.of_bel hb));have HX1:=aA0 (HX0.out.bel hb);clear hb)
    | (go_at_call 199;refine (aXk _ _).mono ?_;rintro e w2 ⟨rfl,hb⟩;rw [aCl,HO.out];have HB2:=aA0 (HB1.out.trans (But.of_bel hb));have HX2:=aA0 (HX1.out.bel hb);have HN2:=aA0 (HN.out.but HB2.out);clear hb)
    | (go_at_call 111;refine (aKh HX2.out HN2.out hNl HV.out).mono ?_;rintro e w3 ⟨rfl,hb,hx⟩;have HB3:=aA0 (HB2.out.trans hb);have HX3:=aA0 hx;clear hb hx)
    | (go_at_call 167;refine (aFo 12 x _).mono ?_;rintro e w4 ⟨⟨v,rfl,hv⟩,hb⟩;have HV4:=aA0 hv;have HB4:=aA0 hb;clear hv hb))
   go_ret;exact ⟨⟨_,rfl,HV4.out.low HB3.out.size⟩,HB3.out.trans (But.of_bel HB4.out),HX3.out.bel HB4.out⟩
  .rw [if_pos h0] at hr
   injection hr with hr
   injection hr with hr1 hr2
   subst hr1;subst hr2;have hopL:=aPt (aBa (aA4 T) t2) 13 fldL;rw [show aG7 (aBa (aA4 T) t2) 13 fldL=op from hop] at hopL
   have hop18:op<=18:=hopL;obtain ⟨t,r0,rfl⟩:=bO0 (T:=aA4 T) (ts:=t2) (by rw [hop];exact h0)
   have HA:=aA0 ha;have HO:=aA0 hop;clear ha hop hopL;have d0:((op:Int) != 0)=true:=by simp;omega
   have CHA:=aA0 (fun (w0:World) (hx:RdX w0 B T ts v2 v3 v4 v5 v6)=>aC2 hx { data:=#[46] } (by decide) HA.out)
   go_enter func191,ntmps191
   go_wp2_with (first
    | (go_at_call 103;with_reducible refine (CHA.out _ HH.out).mono ?_;rintro e w0 ⟨rfl,hb,hx⟩;have HB0:=aA0 hb;have HX0:=aA0 hx;clear hb hx)
    | (go_at_call 104;refine (aC1 HX0.out).mono ?_;rintro e w1 ⟨rfl,hb⟩;have HB1:=aA0 (HB0.out.trans (But.of_bel hb));have HX1:=aA0 (HX0.out.bel hb);clear hb)
    | (go_at_call 199;refine (aXk _ _).mono ?_;rintro e w2 ⟨rfl,hb⟩;rw [aCl,HO.out];have HB2:=aA0 (HB1.out.trans (But.of_bel hb));have HX2:=aA0 (HX1.out.bel hb);clear hb)
    | (go_at_call 107;refine (aEk HX2.out).mono ?_;rintro e w3 ⟨rfl,hb,hx⟩;have HB3:=aA0 (HB2.out.trans hb);have HX3:=aA0 hx;clear hb hx)
    | (go_at_call 167;refine (aFo op 0 _).mono ?_;rintro e w4 ⟨⟨v,rfl,hv⟩,hb⟩;have HV4:=aA0 hv;have HB4:=aA0 hb;clear hv hb))
   go_ret;exact ⟨⟨_,rfl,HV4.out.low HB3.out.size⟩,HB3.out.trans (But.of_bel HB4.out),HX3.out.bel HB4.out⟩
theorem aNg {T:Wd} {ts:List Tok} (h:aBa T ts≠[]):∃ t r,ts=t :: r:=by
 cases ts with
 | nil=>exact absurd rfl h
 | cons t r=>exact ⟨t,r,rfl⟩
theorem aUg {w:Wd} {f:Nat} {l:List Wd} (h:aG7 w f l≠0):w≠[]:=by
 intro e
 unfold aG7 at h;rw [if_pos e] at h;exact h rfl
theorem aVm (T:Wd) (N:List Wd) (n:Nat) (ts:List Tok):aCc T N (n+1) .primary ts =
  if aJ6 ts=2 then some (aL1 1 (ts.headD default).num,ts.tail)
  else match aAh T [40] ts with
   | some t1=>(aCc T N n .choice t1).bind fun (a,t2)=>(aAh T [41] t2).bind fun t3=>some (a,t3)
   | none=>match aAh T [113] ts with
    | some t1=>bIj T N t1
    | none =>
     if bEc (aBa T ts)≠0 then some (aL1 (bEc (aBa T ts)) 0,ts.tail)
     else if bE0 (aBa T ts)≠0 then (aAh T [40] ts.tail).bind fun t1=>(aCc T N n .choice t1).bind fun (a,t2)=>(aAh T [41] t2).bind fun t3=>some (aW9 (bE0 (aBa T ts)) [a],t3)
     else (aFb T N ts).bind fun (x,t1)=>some (aL1 5 x,t1):=by
 rw [aCc];rfl
theorem bDf (a b c d:Int) (w:World):(Instr.field 119 (.agg #[.int .i64 a,.int .i64 b,.int .i64 c,.int .i64 d]) 3).run prog w = .ok (.int .i64 d) w:=by kernel_rfl
theorem aYx {T:ByteArray} {N:List Wd} {n:Nat} (IH:ReadOK T N n) (hNl:N.length<=1000) {w:World} {B:Nat} {ts r:List Tok} {l:List Term} {v2 v3 v4 v5 v6:Value} (h:RdX w B T ts v2 v3 v4 v5 v6) (hN:NmR B w v2 N) (hr:aCc (aA4 T) N (n+1) .primary ts=some (l,r)) (hl:l.length<=1000) :
  Calls prog 181 #[.pointer (some ⟨B,0,none⟩)] w (aTx B T r l v2 v3 v4 v5 v6 w):=by
 have hB:B<w.heap.size:=by obtain ⟨_,_,h⟩:=h;exact h.lt
 rw [aVm] at hr;have HH:=aA0 h;have HN:=aA0 hN;have HIH:=aA0 IH;clear h hN IH
 by_cases hk:aJ6 ts=2
 .rw [if_pos hk] at hr
  injection hr with hr
  injection hr with hr1 hr2
  subst hr1;subst hr2
  obtain ⟨t,r0,rfl⟩:∃ t r,ts=t :: r:=by
   cases ts with
   | nil=>exact absurd hk (by simp [aJ6])
   | cons t r=>exact ⟨t,r,rfl⟩
  have HK:=aA0 hk;clear hk;have rf:=bDf;go_enter func181,ntmps181
  go_wp2_with (first
   | (go_at_call 104;refine (aC1 HH.out).mono ?_;rintro e w1 ⟨rfl,hb⟩;have HB1:=aA0 (But.of_bel (B:=B) hb);have HX1:=aA0 (HH.out.bel hb);clear hb)
   | (go_at_call 105;refine (aFt HX1.out).mono ?_;rintro e w2 ⟨rfl,rfl⟩;rw [HK.out])
   | (go_at_call 107;refine (aEk HX1.out).mono ?_;rintro e w3 ⟨rfl,hb,hx⟩;have HB3:=aA0 (HB1.out.trans hb);have HX3:=aA0 hx;clear hb hx)
   | (go_at_call 167;refine (aFo 1 t.num _).mono ?_;rintro e w4 ⟨⟨v,rfl,hv⟩,hb⟩;have HV4:=aA0 hv;have HB4:=aA0 hb;clear hv hb))
  go_ret;exact ⟨⟨_,rfl,HV4.out.low HB3.out.size⟩,HB3.out.trans (But.of_bel HB4.out),HX3.out.bel HB4.out⟩
 .rw [if_neg hk] at hr
  obtain ⟨k,hkk⟩:∃ k,aJ6 ts=k:=⟨_,rfl⟩;rw [hkk] at hk;have HK:=aA0 hkk;have dk:((k:Int)==2)=false:=by simp;omega
  clear hkk hk;cases ha:aAh (aA4 T) [40] ts with
  | some t1 =>
   rw [ha] at hr;dsimp only at hr;rw [Option.bind_eq_some_iff] at hr;obtain ⟨⟨a,t2⟩,hy,hr⟩:=hr;dsimp only at hr;rw [Option.bind_eq_some_iff] at hr;obtain ⟨t3,hco,hr⟩:=hr;injection hr with hr
   injection hr with hr1 hr2
   subst hr1;subst hr2;have HY:=aA0 hy;have C1:=aA0 (fun (w0:World) (hx:RdX w0 B T ts v2 v3 v4 v5 v6)=>aC2 hx { data:=#[40] } (by decide) ha)
   have C2:=aA0 (fun (w0:World) (hx:RdX w0 B T t2 v2 v3 v4 v5 v6)=>aC9 hx { data:=#[41] } (by decide) hco)
   clear ha hy hco;go_enter func181,ntmps181
   go_wp2_with (first
    | (go_at_call 104;refine (aC1 HH.out).mono ?_;rintro e w1 ⟨rfl,hb⟩;have HB1:=aA0 (But.of_bel (B:=B) hb);have HX1:=aA0 (HH.out.bel hb);clear hb)
    | (go_at_call 105;refine (aFt HX1.out).mono ?_;rintro e w2 ⟨rfl,rfl⟩;rw [HK.out])
    | (go_at_call 103;with_reducible refine (C1.out _ HX1.out).mono ?_;rintro e w2 ⟨rfl,hb,hx⟩;have HB2:=aA0 (HB1.out.trans hb);have HN2:=aA0 (HN.out.but HB2.out);have HX2:=aA0 hx;clear hb hx)
    | (go_at_call 110;refine (HIH.out.choice HX2.out HN2.out HY.out hl).mono ?_;rintro e w3 ⟨⟨v,rfl,hv⟩,hb,hx⟩;have HV3:=aA0 (hv.low HB2.out.size);have HB3:=aA0 (HB2.out.trans hb);have HX3:=aA0 hx;clear hv hb hx)
    | (go_at_call 56;with_reducible refine (C2.out _ HX3.out).mono ?_;rintro e w4 ⟨⟨x,rfl⟩,hb,hx⟩;have HV4:=aA0 (HV3.out.but hb hB);have HB4:=aA0 (HB3.out.trans hb);have HX4:=aA0 hx;clear hb hx))
   go_ret;exact ⟨⟨_,rfl,HV4.out⟩,HB4.out,HX4.out⟩
  | none =>
   rw [ha] at hr;dsimp only at hr;have C1:=aA0 (fun (w0:World) (hx:RdX w0 B T ts v2 v3 v4 v5 v6)=>aBu hx { data:=#[40] } ha);clear ha;cases hq:aAh (aA4 T) [113] ts with
   | some t1 =>
    rw [hq] at hr;dsimp only at hr;have HY:=aA0 hr;have C2:=aA0 (fun (w0:World) (hx:RdX w0 B T ts v2 v3 v4 v5 v6)=>aC2 hx { data:=#[113] } (by decide) hq)
    clear hr hq;go_enter func181,ntmps181
    go_wp2_with (first
     | (go_at_call 104;refine (aC1 HH.out).mono ?_;rintro e w1 ⟨rfl,hb⟩;have HB1:=aA0 (But.of_bel (B:=B) hb);have HX1:=aA0 (HH.out.bel hb);clear hb)
     | (go_at_call 105;refine (aFt HX1.out).mono ?_;rintro e w2 ⟨rfl,rfl⟩;rw [HK.out])
     | (go_at_call 103;with_reducible refine (C1.out _ HX1.out).mono ?_;rintro e w2 ⟨rfl,hb,hx⟩;have HB2:=aA0 (HB1.out.trans hb);have HX2:=aA0 hx;clear hb hx)
     | (go_at_call 103;with_reducible refine (C2.out _ HX2.out).mono ?_;rintro e w3 ⟨rfl,hb,hx⟩;have HB3:=aA0 (HB2.out.trans hb);have HN3:=aA0 (HN.out.but HB3.out);have HX3:=aA0 hx;clear hb hx)
     | (go_at_call 191;refine (bIk HX3.out HN3.out hNl HY.out).mono ?_;rintro e w4 ⟨⟨v,rfl,hv⟩,hb,hx⟩;have HV4:=aA0 (hv.low HB3.out.size);have HB4:=aA0 (HB3.out.trans hb);have HX4:=aA0 hx;clear hv hb hx))
    go_ret;exact ⟨⟨_,rfl,HV4.out⟩,HB4.out,HX4.out⟩
   | none =>
    rw [hq] at hr;dsimp only at hr;have C2:=aA0 (fun (w0:World) (hx:RdX w0 B T ts v2 v3 v4 v5 v6)=>aBu hx { data:=#[113] } hq);clear hq;obtain ⟨co,hco⟩:∃ co,bEc (aBa (aA4 T) ts)=co:=⟨_,rfl⟩;rw [hco] at hr;have HCO:=aA0 hco
    by_cases h0:co=0
    .subst h0
     rw [if_neg (by simp)] at hr
     clear hco;obtain ⟨ag,hag⟩:∃ ag,bE0 (aBa (aA4 T) ts)=ag:=⟨_,rfl⟩;rw [hag] at hr;have HAG:=aA0 hag
     by_cases h1:ag=0
     .subst h1
      rw [if_neg (by simp),Option.bind_eq_some_iff] at hr
      obtain ⟨⟨x,t3⟩,hv,hr⟩:=hr;injection hr with hr
      injection hr with hr1 hr2
      subst hr1;subst hr2;have HV:=aA0 hv;clear hv hag;go_enter func181,ntmps181
      go_wp2_with (first
       | (go_at_call 104;refine (aC1 HH.out).mono ?_;rintro e w1 ⟨rfl,hb⟩;have HB1:=aA0 (But.of_bel (B:=B) hb);have HX1:=aA0 (HH.out.bel hb);clear hb)
       | (go_at_call 105;refine (aFt HX1.out).mono ?_;rintro e w2 ⟨rfl,rfl⟩;rw [HK.out])
       | (go_at_call 103;with_reducible refine (C1.out _ HX1.out).mono ?_;rintro e w2 ⟨rfl,hb,hx⟩;have HB2:=aA0 (HB1.out.trans hb);have HX2:=aA0 hx;clear hb hx)
       | (go_at_call 103;with_reducible refine (C2.out _ HX2.out).mono ?_;rintro e w3 ⟨rfl,hb,hx⟩;have HB3:=aA0 (HB2.out.trans hb);have HX3:=aA0 hx;clear hb hx)
       | (go_at_call 192;refine (aQl _ _).mono ?_;rintro e w4 ⟨rfl,hb⟩;rw [aCl,HCO.out];have HB4:=aA0 (HB3.out.trans (But.of_bel hb));have HX4:=aA0 (HX3.out.bel hb);clear hb)
       | (go_at_call 193;refine (aWi _ _).mono ?_;rintro e w5 ⟨rfl,hb⟩;rw [aCl,HAG.out];have HB5:=aA0 (HB4.out.trans (But.of_bel hb));have HX5:=aA0 (HX4.out.bel hb);have HN5:=aA0 (HN.out.but HB5.out);clear hb)
       | (go_at_call 111;refine (aKh HX5.out HN5.out hNl HV.out).mono ?_;rintro e w6 ⟨rfl,hb,hx⟩;have HB6:=aA0 (HB5.out.trans hb);have HX6:=aA0 hx;clear hb hx)
       | (go_at_call 167;refine (aFo 5 x _).mono ?_;rintro e w7 ⟨⟨v,rfl,hv⟩,hb⟩;have HV7:=aA0 hv;have HB7:=aA0 hb;clear hv hb))
      go_ret;exact ⟨⟨_,rfl,HV7.out.low HB6.out.size⟩,HB6.out.trans (But.of_bel HB7.out),HX6.out.bel HB7.out⟩
     .rw [if_pos h1,Option.bind_eq_some_iff] at hr
      obtain ⟨t1,hp1,hr⟩:=hr;rw [Option.bind_eq_some_iff] at hr;obtain ⟨⟨a,t2⟩,hy,hr⟩:=hr;dsimp only at hr;rw [Option.bind_eq_some_iff] at hr;obtain ⟨t3,hp2,hr⟩:=hr;injection hr with hr
      injection hr with hr1 hr2
      subst hr1;subst hr2;have hagL:=aPt (aBa (aA4 T) ts) 20 aggL;rw [show aG7 (aBa (aA4 T) ts) 20 aggL=ag from hag] at hagL
      have hag30:ag<=30:=hagL;have hne:=aUg (show aG7 (aBa (aA4 T) ts) 20 aggL≠0 from by rw [show aG7 (aBa (aA4 T) ts) 20 aggL=ag from hag];exact h1)
      obtain ⟨t,r0,rfl⟩:=aNg hne;have hll:=hl;rw [aHj] at hll;simp at hll
      have HY:=aA0 hy;have C3:=aA0 (fun (w0:World) (hx:RdX w0 B T r0 v2 v3 v4 v5 v6)=>aC9 hx { data:=#[40] } (by decide) hp1)
      have C4:=aA0 (fun (w0:World) (hx:RdX w0 B T t2 v2 v3 v4 v5 v6)=>aC9 hx { data:=#[41] } (by decide) hp2)
      have d1:((ag:Int) != 0)=true:=by simp;omega
      clear hy hp1 hp2 hag hagL hne;go_enter func181,ntmps181
      go_wp2_with (first
       | (go_at_call 104;refine (aC1 HH.out).mono ?_;rintro e w1 ⟨rfl,hb⟩;have HB1:=aA0 (But.of_bel (B:=B) hb);have HX1:=aA0 (HH.out.bel hb);clear hb)
       | (go_at_call 105;refine (aFt HX1.out).mono ?_;rintro e w2 ⟨rfl,rfl⟩;rw [HK.out])
       | (go_at_call 103;with_reducible refine (C1.out _ HX1.out).mono ?_;rintro e w2 ⟨rfl,hb,hx⟩;have HB2:=aA0 (HB1.out.trans hb);have HX2:=aA0 hx;clear hb hx)
       | (go_at_call 103;with_reducible refine (C2.out _ HX2.out).mono ?_;rintro e w3 ⟨rfl,hb,hx⟩;have HB3:=aA0 (HB2.out.trans hb);have HX3:=aA0 hx;clear hb hx)
       | (go_at_call 192;refine (aQl _ _).mono ?_;rintro e w4 ⟨rfl,hb⟩;rw [aCl,HCO.out];have HB4:=aA0 (HB3.out.trans (But.of_bel hb));have HX4:=aA0 (HX3.out.bel hb);clear hb)
       | (go_at_call 193;refine (aWi _ _).mono ?_;rintro e w5 ⟨rfl,hb⟩;rw [aCl,HAG.out];have HB5:=aA0 (HB4.out.trans (But.of_bel hb));have HX5:=aA0 (HX4.out.bel hb);clear hb)
       | (go_at_call 107;refine (aEk HX5.out).mono ?_;rintro e w6 ⟨rfl,hb,hx⟩;have HB6:=aA0 (HB5.out.trans hb);have HX6:=aA0 hx;clear hb hx)
       | (go_at_call 56;with_reducible refine (C3.out _ HX6.out).mono ?_;rintro e w7 ⟨⟨x,rfl⟩,hb,hx⟩;have HB7:=aA0 (HB6.out.trans hb);have HN7:=aA0 (HN.out.but HB7.out);have HX7:=aA0 hx;clear hb hx)
       | (go_at_call 110;refine (HIH.out.choice HX7.out HN7.out HY.out (by omega)).mono ?_;rintro e w8 ⟨⟨_,rfl,Ac,cc,rfl,hv⟩,hb,hx⟩;have HV8:=aA0 ((TmO.mk hv).low HB7.out.size);have HB8:=aA0 (HB7.out.trans hb);have HX8:=aA0 hx;clear hv hb hx)
       | (go_at_call 56;with_reducible refine (C4.out _ HX8.out).mono ?_;rintro e w9 ⟨⟨x9,rfl⟩,hb,hx⟩;have HS:=aA0 (hs1 (t:=134) (HV8.out.but hb hB));have HB9:=aA0 (HB8.out.trans hb);have HX9:=aA0 hx;clear hb hx)
       | (go_at_call 142;refine (aEa ag _ 1 [a] _ HS.out (by simp) (by omega)).mono ?_;rintro e wa ⟨⟨v,rfl,hv⟩,hb⟩;have HVa:=aA0 hv;have HBa:=aA0 (((Bel.refl w9).alloc (.cells #[.slice Ac a.length cc] 134)).trans hb);clear hv hb))
      go_ret;exact ⟨⟨_,rfl,HVa.out.low (by have:=HB9.out.size;simp;omega)⟩,HB9.out.trans (But.of_bel HBa.out),HX9.out.bel HBa.out⟩
    .rw [if_pos h0] at hr
     injection hr with hr
     injection hr with hr1 hr2
     subst hr1;subst hr2;have hcoL:=aPt (aBa (aA4 T) ts) 2 conL;rw [show aG7 (aBa (aA4 T) ts) 2 conL=co from hco] at hcoL
     have hco11:co<=11:=hcoL;have hne:=aUg (show aG7 (aBa (aA4 T) ts) 2 conL≠0 from by rw [show aG7 (aBa (aA4 T) ts) 2 conL=co from hco];exact h0)
     obtain ⟨t,r0,rfl⟩:=aNg hne;have d1:((co:Int) != 0)=true:=by simp;omega
     clear hco hcoL hne;go_enter func181,ntmps181
     go_wp2_with (first
      | (go_at_call 104;refine (aC1 HH.out).mono ?_;rintro e w1 ⟨rfl,hb⟩;have HB1:=aA0 (But.of_bel (B:=B) hb);have HX1:=aA0 (HH.out.bel hb);clear hb)
      | (go_at_call 105;refine (aFt HX1.out).mono ?_;rintro e w2 ⟨rfl,rfl⟩;rw [HK.out])
      | (go_at_call 103;with_reducible refine (C1.out _ HX1.out).mono ?_;rintro e w2 ⟨rfl,hb,hx⟩;have HB2:=aA0 (HB1.out.trans hb);have HX2:=aA0 hx;clear hb hx)
      | (go_at_call 103;with_reducible refine (C2.out _ HX2.out).mono ?_;rintro e w3 ⟨rfl,hb,hx⟩;have HB3:=aA0 (HB2.out.trans hb);have HX3:=aA0 hx;clear hb hx)
      | (go_at_call 192;refine (aQl _ _).mono ?_;rintro e w4 ⟨rfl,hb⟩;rw [aCl,HCO.out];have HB4:=aA0 (HB3.out.trans (But.of_bel hb));have HX4:=aA0 (HX3.out.bel hb);clear hb)
      | (go_at_call 107;refine (aEk HX4.out).mono ?_;rintro e w6 ⟨rfl,hb,hx⟩;have HB6:=aA0 (HB4.out.trans hb);have HX6:=aA0 hx;clear hb hx)
      | (go_at_call 167;refine (aFo co 0 _).mono ?_;rintro e w7 ⟨⟨v,rfl,hv⟩,hb⟩;have HV7:=aA0 hv;have HB7:=aA0 hb;clear hv hb))
     go_ret;exact ⟨⟨_,rfl,HV7.out.low HB6.out.size⟩,HB6.out.trans (But.of_bel HB7.out),HX6.out.bel HB7.out⟩
theorem bJe (T:Wd) (N:List Wd) (n lv:Nat) (ts:List Tok):aCc T N (n+1) (.bin lv) ts=if lv=6 then aCc T N n .unary ts else (aCc T N n (.bin (lv+1)) ts).bind fun (a,t1)=>aCc T N n (.more lv a) t1:=by
 rw [aCc]
theorem bFv (T:Wd) (N:List Wd) (n lv:Nat) (a:List Term) (ts:List Tok):aCc T N (n+1) (.more lv a) ts =
  if aS9 (aBa T ts)=0∨aY3 (aS9 (aBa T ts))≠lv then some (a,ts)
  else (aCc T N n (.bin (lv+1)) ts.tail).bind fun (b,t1)=>if lv=3 then some (aW9 (aS9 (aBa T ts)) [a,b],t1) else aCc T N n (.more lv (aW9 (aS9 (aBa T ts)) [a,b])) t1:=by
 rw [aCc]
theorem aZw {T:ByteArray} {N:List Wd} {n:Nat} (IH:∀ m,m<=n->ReadOK T N m) {w:World} {B:Nat} {ts r:List Tok} {l:List Term} {v2 v3 v4 v5 v6:Value} {lv:Nat} (hlv:lv<=6) (h:RdX w B T ts v2 v3 v4 v5 v6) (hN:NmR B w v2 N) (hr:aCc (aA4 T) N (n+1) (.bin lv) ts=some (l,r)) (hl:l.length<=1000) :
  Calls prog 141 #[.pointer (some ⟨B,0,none⟩),.int .i64 (lv:Int)] w (aTx B T r l v2 v3 v4 v5 v6 w):=by
 have hB:B<w.heap.size:=by obtain ⟨_,_,h⟩:=h;exact h.lt
 rw [bJe] at hr;have HH:=aA0 h;have HN:=aA0 hN;have HIH:=aA0 IH;clear h hN IH
 by_cases h6:lv=6
 .rw [if_pos h6] at hr
  have HR:=aA0 hr;have d6:((lv:Int)==6)=true:=by simp;omega
  clear hr h6;go_enter func141,ntmps141
  go_wp2_with (go_at_call 164;refine ((HIH.out n (Nat.le_refl _)).unary HH.out HN.out HR.out hl).mono ?_;rintro e w2 ⟨⟨v,rfl,hv⟩,hb,hx⟩;have HV2:=aA0 hv;have HB2:=aA0 hb;have HX2:=aA0 hx;clear hv hb hx)
  go_ret;exact ⟨⟨_,rfl,HV2.out⟩,HB2.out,HX2.out⟩
 .rw [if_neg h6,Option.bind_eq_some_iff] at hr
  obtain ⟨⟨a,t1⟩,ha,hr⟩:=hr;dsimp only at hr;have hal:=aUy hr;have HA:=aA0 ha;have HR:=aA0 hr;have d6:((lv:Int)==6)=false:=by simp;omega
  have e1:IntKind.i64.wrap ((lv:Int)+1)=((lv+1:Nat):Int):=by rw [IntWalk.i64_in _ (by omega)];omega
  clear ha hr;go_enter func141,ntmps141
  go_wp2_with (go_at_call 141;refine ((HIH.out n (Nat.le_refl _)).bin (lv:=lv+1) (by omega) HH.out HN.out HA.out (by omega)).mono ?_;rintro e w1 ⟨⟨_,rfl,Ac,cc,rfl,hv⟩,hb,hx⟩;have HV1:=aA0 (TmO.mk hv);have HB1:=aA0 hb;have HX1:=aA0 hx;clear hv hb hx)
  go_loopg [5,6] n (fun m av _ov wr=>∃ (k:Nat) (b:List Term) (A:Option Addr) (c:Nat) (tk:List Tok),m=k/\k<=n/\av = .slice A b.length c/\Hid (aCc (aA4 T) N k (.more lv b) tk=some (l,r))/\Hid (TmO w.heap.size wr (.slice A b.length c) b)/\Hid (But B w wr)/\Hid (RdX wr B T tk v2 v3 v4 v5 v6))
  case atStart=>exact ⟨n,a,Ac,cc,t1,rfl,Nat.le_refl _,rfl,HR.out,HV1.out,HB1.out,HX1.out⟩
  case round =>
   obtain ⟨k,b,A,c,tk,rfl,hkn,rfl,HRk,HVk,HBk,HXk⟩:=hrel
   obtain ⟨k,rfl⟩:∃ m,gk=m+1:=by
    match gk,HRk.out with
    | 0,h=>simp [aCc] at h
    | m+1,_=>exact ⟨m,rfl⟩
   have hrr:=HRk.out;rw [bFv] at hrr;clear HRk;obtain ⟨op,hop⟩:∃ op,aS9 (aBa (aA4 T) tk)=op:=⟨_,rfl⟩;rw [hop] at hrr;have hopL:=aPt (aBa (aA4 T) tk) 30 binL;rw [show aG7 (aBa (aA4 T) tk) 30 binL=op from hop] at hopL
   have hop43:op<=43:=hopL;clear hopL;have HO:=aA0 hop
   by_cases h0:op=0
   .rw [if_pos (.inl h0)] at hrr
    injection hrr with hrr
    injection hrr with hr1 hr2
    subst hr1;subst hr2;subst h0;clear hop
    go_wp2_with (first
     | (go_at_call 104;refine (aC1 HXk.out).mono ?_;rintro e w2 ⟨rfl,hb⟩;have HB2:=aA0 (HBk.out.trans (But.of_bel hb));have HX2:=aA0 (HXk.out.bel hb);have HV2:=aA0 (HVk.out.bel hb);clear hb)
     | (go_at_call 165;refine (aM5 _ _).mono ?_;rintro e w3 ⟨rfl,hb⟩;rw [aCl,HO.out];have HB3:=aA0 (HB2.out.trans (But.of_bel hb));have HX3:=aA0 (HX2.out.bel hb);have HV3:=aA0 (HV2.out.bel hb);clear hb))
    go_ret;exact ⟨⟨_,rfl,HV3.out⟩,HB3.out,HX3.out⟩
   .have d0:((op:Int)==0)=false:=by simp;omega
    obtain ⟨le,hle⟩:∃ le,aY3 op=le:=⟨_,rfl⟩;rw [hle] at hrr;have HL:=aA0 hle
    by_cases h1:le=lv
    .rw [if_neg (by rintro (h | h);exact h0 h;exact h h1),Option.bind_eq_some_iff] at hrr
     obtain ⟨⟨d,t2⟩,hd,hrr⟩:=hrr;dsimp only at hrr;have hne:=aUg (show aG7 (aBa (aA4 T) tk) 30 binL≠0 from by rw [show aG7 (aBa (aA4 T) tk) 30 binL=op from hop];exact h0)
     obtain ⟨t,r0,rfl⟩:=aNg hne;have dl:((le:Int) != (lv:Int))=false:=by simp;omega
     have HD:=aA0 hd;have hBw:=Nat.lt_of_lt_of_le hB HBk.out.size;clear hop hle hne hd h1
     by_cases h3:lv=3
     .rw [if_pos h3] at hrr
      injection hrr with hrr
      injection hrr with hr1 hr2
      subst hr1;subst hr2;have d3:((lv:Int)==3)=true:=by simp;omega
      have hll:=hl;rw [aHj] at hll;simp at hll
      clear h3
      go_wp2_with (first
       | (go_at_call 104;refine (aC1 HXk.out).mono ?_;rintro e w2 ⟨rfl,hb⟩;have HB2:=aA0 (HBk.out.trans (But.of_bel hb));have HX2:=aA0 (HXk.out.bel hb);have HV2:=aA0 (HVk.out.bel hb);clear hb)
       | (go_at_call 165;refine (aM5 _ _).mono ?_;rintro e w3 ⟨rfl,hb⟩;rw [aCl,HO.out];have HB3:=aA0 (HB2.out.trans (But.of_bel hb));have HX3:=aA0 (HX2.out.bel hb);have HV3:=aA0 (HV2.out.bel hb);clear hb)
       | (go_at_call 166;refine (aLq op _ (by omega)).mono ?_;rintro e w4 ⟨rfl,rfl⟩;rw [HL.out])
       | (go_at_call 107;refine (aEk HX3.out).mono ?_;rintro e w5 ⟨rfl,hb,hx⟩;have HB5:=aA0 (HB3.out.trans hb);have HN5:=aA0 (HN.out.but HB5.out);have HV5:=aA0 (HV3.out.but hb hB);have HX5:=aA0 hx;clear hb hx)
       | (go_at_call 141;refine ((HIH.out k (by omega)).bin (lv:=lv+1) (by omega) HX5.out HN5.out HD.out (by omega)).mono ?_;rintro e w6 ⟨⟨_,rfl,Ad,cd,rfl,hv⟩,hb,hx⟩;have HS:=aA0 (hs2 (t:=134) (HV5.out.but hb hB) (TmO.mk hv));have HB6:=aA0 (HB5.out.trans hb);have HX6:=aA0 hx;clear hv hb hx)
       | (go_at_call 142;refine (aEa op _ 2 [b,d] _ HS.out (by simp) (by omega)).mono ?_;rintro e w7 ⟨⟨v,rfl,hv⟩,hb⟩;have HV7:=aA0 hv;have HB7:=aA0 (((Bel.refl w6).alloc (.cells #[.slice A b.length c,.slice Ad d.length cd] 134)).trans hb);clear hv hb))
      go_ret;exact ⟨⟨_,rfl,HV7.out.low (by have:=HB6.out.size;simp;omega)⟩,HB6.out.trans (But.of_bel HB7.out),HX6.out.bel HB7.out⟩
     .rw [if_neg h3] at hrr
      have d3:((lv:Int)==3)=false:=by simp;omega
      have hll:=aUy hrr;have hll2:=hll;rw [aHj] at hll;simp at hll
      have HRR:=aA0 hrr;clear h3 hrr
      go_wp2_with (first
       | (go_at_call 104;refine (aC1 HXk.out).mono ?_;rintro e w2 ⟨rfl,hb⟩;have HB2:=aA0 (HBk.out.trans (But.of_bel hb));have HX2:=aA0 (HXk.out.bel hb);have HV2:=aA0 (HVk.out.bel hb);clear hb)
       | (go_at_call 165;refine (aM5 _ _).mono ?_;rintro e w3 ⟨rfl,hb⟩;rw [aCl,HO.out];have HB3:=aA0 (HB2.out.trans (But.of_bel hb));have HX3:=aA0 (HX2.out.bel hb);have HV3:=aA0 (HV2.out.bel hb);clear hb)
       | (go_at_call 166;refine (aLq op _ (by omega)).mono ?_;rintro e w4 ⟨rfl,rfl⟩;rw [HL.out])
       | (go_at_call 107;refine (aEk HX3.out).mono ?_;rintro e w5 ⟨rfl,hb,hx⟩;have HB5:=aA0 (HB3.out.trans hb);have HN5:=aA0 (HN.out.but HB5.out);have HV5:=aA0 (HV3.out.but hb hB);have HX5:=aA0 hx;clear hb hx)
       | (go_at_call 141;refine ((HIH.out k (by omega)).bin (lv:=lv+1) (by omega) HX5.out HN5.out HD.out (by omega)).mono ?_;rintro e w6 ⟨⟨_,rfl,Ad,cd,rfl,hv⟩,hb,hx⟩;have HS:=aA0 (hs2 (t:=134) (HV5.out.but hb hB) (TmO.mk hv));have HB6:=aA0 (HB5.out.trans hb);have HX6:=aA0 hx;clear hv hb hx)
       | (go_at_call 142;refine (aEa op _ 2 [b,d] _ HS.out (by simp) (by omega)).mono ?_;rintro e w7 ⟨⟨_,rfl,A7,c7,rfl,hv⟩,hb⟩;have HV7:=aA0 (TmO.mk hv);have HB7:=aA0 (((Bel.refl w6).alloc (.cells #[.slice A b.length c,.slice Ad d.length cd] 134)).trans hb);clear hv hb))
      go_roundg k
      case rel=>exact ⟨k,aW9 op [b,d],A7,c7,t2,rfl,by omega,rfl,HRR.out,HV7.out.low (by have:=HB6.out.size;simp;omega),HB6.out.trans (But.of_bel HB7.out),HX6.out.bel HB7.out⟩
      case measure=>omega
    .rw [if_pos (.inr h1)] at hrr
     injection hrr with hrr
     injection hrr with hr1 hr2
     subst hr1;subst hr2;have dl:((le:Int) != (lv:Int))=true:=by simp;omega
     clear hop hle h1
     go_wp2_with (first
      | (go_at_call 104;refine (aC1 HXk.out).mono ?_;rintro e w2 ⟨rfl,hb⟩;have HB2:=aA0 (HBk.out.trans (But.of_bel hb));have HX2:=aA0 (HXk.out.bel hb);have HV2:=aA0 (HVk.out.bel hb);clear hb)
      | (go_at_call 165;refine (aM5 _ _).mono ?_;rintro e w3 ⟨rfl,hb⟩;rw [aCl,HO.out];have HB3:=aA0 (HB2.out.trans (But.of_bel hb));have HX3:=aA0 (HX2.out.bel hb);have HV3:=aA0 (HV2.out.bel hb);clear hb)
      | (go_at_call 166;refine (aLq op _ (by omega)).mono ?_;rintro e w4 ⟨rfl,rfl⟩;rw [HL.out]))
     go_ret;exact ⟨⟨_,rfl,HV3.out⟩,HB3.out,HX3.out⟩
theorem bMh (T:ByteArray) (N:List Wd) (hNl:N.length<=1000) (n:Nat):ReadOK T N n:=by
 induction n using Nat.strongRecOn with
 | _ n ih =>
  match n,ih with
  | 0,_=>exact ⟨fun _ _ h _=>by simp [aCc] at h,fun _ _ _ h _=>by simp [aCc] at h,fun _ _ h _=>by simp [aCc] at h,fun _ _ h _=>by simp [aCc] at h⟩
  | n+1,ih =>
   have IH:=ih n (Nat.lt_succ_self n);exact ⟨fun h1 h2 h3 h4=>aVk IH h1 h2 h3 h4,fun h0 h1 h2 h3 h4=>aZw (fun m hm=>ih m (by omega)) h0 h1 h2 h3 h4,fun h1 h2 h3 h4=>bGi IH h1 h2 h3 h4,fun h1 h2 h3 h4=>aYx IH hNl h1 h2 h3 h4⟩
theorem aSj {T:Wd} {K:List Wd} {ts r:List Tok} {x:Wd} (h:aKu T K ts=some (x,r)):aJ6 ts=1/\bAt (aBa T ts)=true/\aBa T ts=x/\(∀ i (hi:i<K.length),K[i]≠x)/\∃ t,ts=t :: r:=by
 unfold aKu at h;split at h
 .rename_i hc
  injection h with h
  injection h with h1 h2
  subst h1;refine ⟨hc.1,hc.2.1,rfl,fun i hi he=>?_,?_⟩
  .have:=hc.2.2
   rw [<- he] at this;have hm:K.contains K[i]=true:=List.contains_iff_mem.2 (List.getElem_mem hi);rw [hm] at this;cases this
  .cases ts with
   | nil=>exact absurd hc.1 (by simp [aJ6])
   | cons t r'=>exact ⟨t,by rw [<- h2];rfl⟩
 .cases h
theorem aK1 {w:World} {B:Nat} {T:ByteArray} {ts r:List Tok} {v2 v3 v4 v5 v6:Value} {K:List Wd} {x:Wd} {A:Option Addr} {c:Nat} (h:RdX w B T ts v2 v3 v4 v5 v6) (hK:aAc 1 (bBz B) w A K.length K) (hl:K.length<=1000) (hv:aKu (aA4 T) K ts=some (x,r)) :
  Calls prog 57 #[.pointer (some ⟨B,0,none⟩),.slice A K.length c] w fun e w'=>e = .returned (.string (ba x))/\But B w w'/\RdX w' B T r v2 v3 v4 v5 v6:=by
 obtain ⟨hk,hn,hp,hx,t,rfl⟩:=aSj hv;have HNR:=aA0 hK;have HK:=aA0 hk;have HNM:=aA0 hn;have HP:=aA0 hp;have HX:=aA0 hx;have HH:=aA0 h;have HPL:=aA0 (aYt (T:=T) (ts:=t :: r));have HBIG:Hid (T.size<=16384):=by obtain ⟨_,_,h⟩:=h;exact h.big
 clear hv hK hk hn hx h hp;go_enter func57,ntmps57
 go_wp2_with (first
  | (go_at_call 104;refine (aC1 HH.out).mono ?_;rintro e w1 ⟨rfl,hb⟩;rw [HP.out];have HH1:=aA0 (HH.out.bel hb);have HB:=aA0 hb;have HN1:=aA0 (NmR.strs (c:=0) (HNR.out.keep (fun _ _ _ _ _ k hb h=>⟨h.1,(k.cell hb).trans h.2⟩) hb));clear hb)
  | (go_at_call 105;refine (aFt HH1.out).mono ?_;rintro e w2 ⟨rfl,rfl⟩;rw [HK.out])
  | (go_at_call 106;refine (aYf x _ (by have:=HPL.out;have:=HBIG.out;rw [HP.out] at *;omega) true (by rw [<- HP.out];exact HNM.out)).mono ?_;rintro e w2 ⟨rfl,rfl⟩))
 go_loopg [7,28] K.length (fun m _x z wr=>∃ j:Nat,j<=K.length/\m=K.length-j/\z = .int .i64 j/\w1=wr)
 case atStart=>exact ⟨0,by omega,rfl,rfl,rfl⟩
 case round =>
  obtain ⟨j,hj,rfl,rfl,rfl⟩:=hrel
  by_cases hlt:j<K.length
  .have hd0:decide (j<K.length)=true:=by simpa using hlt
   obtain ⟨b,o,rfl,hb,hc⟩:=HN1.out.at_ j hlt;have hne:=HX.out j hlt;have hd:((ba K[j]).toList==(ba x).toList)=false:=by rw [aD0,aD0];simpa using hne
   clear hne;go_wp2
   go_roundg (K.length-(j+1))
   case rel=>exact ⟨j+1,by omega,rfl,by go_num,rfl⟩
   case measure=>omega
  .have hd0:decide (j<K.length)=false:=by simpa using hlt
   go_wp2_with (go_at_call 107;refine (aEk HH1.out).mono ?_;rintro e w2 ⟨rfl,hb,hr⟩;have HB2:=aA0 hb;have HR:=aA0 hr;clear hb hr)
   go_ret;exact ⟨rfl,(But.of_bel HB.out).trans HB2.out,HR.out⟩
theorem bBe {w:World} {B:Nat} {T:ByteArray} {ts r:List Tok} {v2 v3 v4 v5 v6:Value} {x:Nat} (h:RdX w B T ts v2 v3 v4 v5 v6) (hv:aV7 0 4096 ts=some (x,r)) :
  Calls prog 108 #[.pointer (some ⟨B,0,none⟩),.int .i64 0,.int .i64 4096] w fun e w'=>e = .returned (.int .i64 (x:Int))/\But B w w'/\RdX w' B T r v2 v3 v4 v5 v6:=by
 unfold aV7 at hv;split at hv
 .rename_i hc
  injection hv with hv
  injection hv with h1 h2
  obtain ⟨hk,_,hx⟩:=hc
  obtain ⟨t,r0,rfl⟩:∃ t r,ts=t :: r:=by
   cases ts with
   | nil=>exact absurd hk (by simp [aJ6])
   | cons t r=>exact ⟨t,r,rfl⟩
  have e1:t.num=x:=h1;have e2:r0=r:=h2;have hx2:t.num<=4096:=hx;subst e1;subst e2;have HK:=aA0 hk;have HH:=aA0 h;clear h hk h1 h2 hx;have d1:decide ((t.num:Int)<0)=false:=by simp
  have d2:decide ((4096:Int)<(t.num:Int))=false:=by simp;omega
  have rf:=bDf;obtain ⟨A1,k1,hr1⟩:=HH.out;obtain ⟨y0,y1,y2,_⟩:=hr1.cells;have yl:=hr1.lt;obtain ⟨b,o,rfl,hb,t0,t1,t2,t3⟩:=hr1.first
  clear hr1;go_enter func108,ntmps108
  go_wp2_with (first
   | (go_at_call 105;refine (aFt HH.out).mono ?_;rintro e w2 ⟨rfl,rfl⟩;rw [HK.out])
   | (go_at_call 107;refine (aEk HH.out).mono ?_;rintro e w2 ⟨rfl,hb,hr⟩;have HB2:=aA0 hb;have HR:=aA0 hr;clear hb hr))
  go_ret;exact ⟨rfl,HB2.out,HR.out⟩
 .cases hv
theorem RdX.agrX {w w':World} {B X:Nat} {T:ByteArray} {ts:List Tok} {v2 v3 v4 v5 v6:Value} (h:RdX w B T ts v2 v3 v4 v5 v6) (k:Agr (fun q=>q=X) w w') (hX:B<X):RdX w' B T ts v2 v3 v4 v5 v6:=by
 obtain ⟨A,c,h⟩:=h;refine ⟨A,c,?_,h.tok.agr k (fun q e=>by omega),h.cap,h.few,h.ok,h.big⟩
 have hb:=h.blk;unfold Blk at hb ⊢;rw [k.block B (lt_of_block hb) (by omega)];exact hb
theorem Blk.but {w w':World} {B X:Nat} {cs:Array Value} {t:TypeId} (h:Blk w X cs t) (k:But B w w') (hX:X≠B):Blk w' X cs t:=by
 unfold Blk at h ⊢;rw [k.block X (lt_of_block h) hX];exact h
def vrC (n:Wd) (k lo pn:Int):Array Value:=#[.string (ba n),.int .i64 k,.int .i64 lo,.int .i64 0,.int .i64 pn,.int .i64 0]
theorem bHd {w:World} {B X:Nat} {T:ByteArray} {ts t3:List Tok} {v2 v3 v4 v5 v6:Value} {n:Wd} {k lo:Int} (h:RdX w B T ts v2 v3 v4 v5 v6) (hX:Blk w X (vrC n k lo 0) 132) (hBX:B<X) (hk:aJ6 ts≠2) (hn:aAh (aA4 T) [110] ts=some t3) (hp:aAh (aA4 T) [43] t3=none) (hm:aAh (aA4 T) [45] t3=none) :
  Calls prog 109 #[.pointer (some ⟨B,0,none⟩),.pointer (some ⟨X,0,none⟩)] w fun e w'=>(∃ x,e = .returned x)/\Agr (fun q=>q=B∨q=X) w w'/\RdX w' B T t3 v2 v3 v4 v5 v6/\Blk w' X (vrC n k lo 1) 132:=by
 obtain ⟨kk,hkk⟩:∃ k,aJ6 ts=k:=⟨_,rfl⟩;rw [hkk] at hk;have HK:=aA0 hkk;have dk:((kk:Int)==2)=false:=by simp;omega
 have HH:=aA0 h;have HX:=aA0 hX;have C1:=aA0 (fun (w0:World) (hx:RdX w0 B T ts v2 v3 v4 v5 v6)=>aC2 hx { data:=#[110] } (by decide) hn)
 have C2:=aA0 (fun (w0:World) (hx:RdX w0 B T t3 v2 v3 v4 v5 v6)=>aBu hx { data:=#[43] } hp);have C3:=aA0 (fun (w0:World) (hx:RdX w0 B T t3 v2 v3 v4 v5 v6)=>aBu hx { data:=#[45] } hm);clear h hX hk hn hp hm hkk;go_enter func109,ntmps109
 go_wp2_with (first
  | (go_at_call 105;refine (aFt HH.out).mono ?_;rintro e w2 ⟨rfl,rfl⟩;rw [HK.out])
  | (go_at_call 103;with_reducible refine (C1.out _ HH.out).mono ?_;rintro e w1 ⟨rfl,hb,hx⟩;have HB1:=aA0 hb;have HR1:=aA0 hx;have HX1:=aA0 (HX.out.but hb (by omega));have f4:=HX1.out.frozen 4;have c4:=HX1.out.cell 4 (v := .int .i64 0) rfl;have l4:=HX1.out.lt;have HR2:=aA0 (HR1.out.agrX (Agr.setCell (E:=fun q=>q=X) w1 ⟨X,4,none⟩ (.int .i64 1) rfl) hBX);clear hb hx)
  | (go_at_call 103;with_reducible refine (C2.out _ HR2.out).mono ?_;rintro e w2 ⟨rfl,hb,hx⟩;have HB2:=aA0 hb;have HR3:=aA0 hx;clear hb hx)
  | (go_at_call 103;with_reducible refine (C3.out _ HR3.out).mono ?_;rintro e w3 ⟨rfl,hb,hx⟩;have HB3:=aA0 hb;have HR4:=aA0 hx;clear hb hx))
 go_end0
 have hag:Agr (fun q=>q=B∨q=X) w w3:=(((HB1.out.mono (fun q e => .inl e)).trans (Agr.setCell w1 ⟨X,4,none⟩ (.int .i64 1) (.inr rfl))).trans (HB2.out.mono (fun q e => .inl e))).trans (HB3.out.mono (fun q e => .inl e));exact ⟨⟨_,rfl⟩,hag,HR4.out,((show Blk _ X (vrC n k lo 1) _ from HX1.out.set 4 (.int .i64 1)).but HB2.out (by omega)).but HB3.out (by omega)⟩
def aKz (E:Nat) (n:Int):Nat->List (Nat × Int)->Bool
 | _,[]=>true
 | b,x :: l=>decide (b<x.1)&&aB1 x.1 E&&decide (0<=x.2)&&decide (x.2<n)&&aKz E n x.1 l
def aBz (E:Nat) (n:Int) (l:List (Nat × Int)):Bool:=decide (E<16777216)&&(decide (E≠0)==decide (0<l.length))&&aKz E n 0 l
def aD5 (s:Spc):Bool:=decide (1<=s.enabled.length)&&decide (s.arcs.length=s.enabled.length)&&(List.range s.enabled.length).all fun k=>aBz (s.enabled.getD k 0) s.enabled.length (s.arcs.getD k [])
def wfS (s:Spc):Prop:=(∀ E∈s.enabled,E<4294967296)/\∀ l∈s.arcs,∀ x∈l,x.1<4294967296
def aE3 (s:Spc):Bool:=decide (s.enabled.length<=700)&&decide (s.arcs.length<=700)&&s.arcs.all fun l=>decide (l.length<=70)
theorem aBo {s:Spc} (h:aE3 s=true):s.enabled.length<=700/\s.arcs.length<=700/\∀ l∈s.arcs,l.length<=70:=by
 unfold aE3 at h;simp only [Bool.and_eq_true,decide_eq_true_eq,List.all_eq_true] at h
 exact ⟨h.1.1,h.1.2,h.2⟩
theorem bC4 {E:Nat} {n:Int} {b i:Nat} {l:List (Nat × Int)} (hi:i<l.length):aKz E n b (l.drop i)=(decide (b<l[i].1)&&aB1 l[i].1 E&&decide (0<=l[i].2)&&decide (l[i].2<n)&&aKz E n l[i].1 (l.drop (i+1))):=by
 rw [List.drop_eq_getElem_cons hi];rfl
theorem aWk {E:Nat} {n:Int} {b:Nat} {l:List (Nat × Int)}:aKz E n b (l.drop l.length)=true:=by rw [List.drop_length];rfl
end Go.Proofs.YtmoebklkkjbigaaGreatDoor

