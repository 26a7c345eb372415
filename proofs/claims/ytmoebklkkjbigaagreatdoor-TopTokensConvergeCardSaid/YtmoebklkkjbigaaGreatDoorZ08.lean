/- Merged. -/
import Derived.Test.YtmoebklkkjbigaaGreatDoorZ06
import Derived.Test.YtmoebklkkjbigaaGreatDoorZ05
import Derived.Deep.RegionHeld3
import Derived.Lib.Strings
set_option linter.unusedSimpArgs false
set_option linter.unnecessarySimpa false
set_option linter.unusedVariables false
set_option maxRecDepth 100000
set_option maxHeartbeats 4000000
open Go.Proofs.Tryz

namespace Go.Proofs.YtmoebklkkjbigaaGreatDoor
open Go.RowKit
def bNa (l:List Int) (w:World) (e:Ending) (w':World):Prop:=∃ A c,e = .returned (.slice A l.length c)/\aCr w' A l.length l/\l.length<=c/\c<=maxLen/\Bel w w'
def aQo (l:List Int) (k:Nat):List Int:=l.take k++List.replicate (l.length-k) 0
theorem aAa {w:World} {base:Nat} {e:TypeId} {size g n c:Nat} {xs:List Value} (h:w.ownsRow base e size (.slice (some ⟨g,0,none⟩) n c) n xs):base<=g/\g<w.heap.size:=by
 rcases h.2 with ⟨hv,_⟩ | ⟨g',cap,cur,hv,hb,hg,_⟩
 .cases hv
 .injection hv with hA;injection hA with hA;injection hA with hA;subst hA;exact ⟨hb,lt_of_block hg⟩
theorem bEn (l:List Int):aQo l 0=List.replicate l.length 0:=by simp [aQo]
theorem bEl (l:List Int) (k:Nat) (h:l.length<=k):aQo l k=l:=by simp [aQo,List.take_of_length_le h,show l.length-k=0 by omega]
theorem bHj (l:List Int) (k:Nat) (h:k<l.length):(aQo l k)[k]?=some 0:=by
 unfold aQo;rw [List.getElem?_append_right (by simp;omega)]
 rw [List.length_take,Nat.min_eq_left (Nat.le_of_lt h),Nat.sub_self,List.getElem?_replicate,if_pos (by omega)]
theorem bEm (l:List Int) (k:Nat) (h:k<l.length):(aQo l k).set k l[k]=aQo l (k+1):=by
 unfold aQo;rw [List.set_append_right _ _ (by simp;omega),List.length_take,Nat.min_eq_left (Nat.le_of_lt h),Nat.sub_self,show l.length-k=(l.length-(k+1))+1 by omega,List.replicate_succ,List.set_cons_zero]
 conv=>rhs;rw [List.take_succ_eq_append_getElem h,List.append_assoc]
 rfl
theorem bI1 (v:Value) (p:Prg) (w:World) (h:aK5 w v p) (hl:p.vars.length<=1000) :
  Calls prog 66 #[v] w (bNa (aDp p) w):=by
 obtain ⟨A,k,A2,k2,rfl,hV,_,_,_,_,_⟩:=h;have HV:=aA0 (fun w' (k:Bel w w')=>aNh.keep hV k);clear hV;obtain ⟨i0,hi0,hz0,hz1,hz2⟩:=info_parts aKe;have HN:Hid ((aDp p).length=p.vars.length):=by show (aDp p).length=_;simp [aDp]
 have HB0:=(Bel.refl w).alloc (.cells #[.string p.name,.slice A p.vars.length k,.slice A2 p.rules.length k2] 31);go_enter func66,ntmps66
 go_wp2_with (at_make;refine aB7 _ rfl 22 (.tmp 8) (.tmp 8) rfl (w.heap.size+1) 3 i0 (.int .i64 0) 1 underlying22 hi0 hz0 hz1 .i64 .i64 p.vars.length rfl rfl (by rw [hz2];omega) (by unfold maxLen;omega) (by simp) ?_;intro g w2 hown hb2;have q1:=aAq hb2 1 rfl;have q2:=aDd hb2;have HB:=HB0.trans hb2;rw [aB3 _ rfl] at hown;have HO:=aA0 hown;have HK2:=aA0 hb2;clear hown hb2 HB0)
 have hg:=aAa HO.out
 have H0:Hid (w2.ownsRow (w.heap.size+1) 3 1 (.slice (some ⟨g,0,none⟩) p.vars.length p.vars.length) p.vars.length ((aQo (aDp p) 0).map (Value.int .i64))):=by
  show World.ownsRow _ _ _ _ _ _ _
  rw [bEn,HN.out,List.map_replicate];exact HO.out
 clear HO
 go_loopg [4,5,13] p.vars.length (fun m _x _y z wr=>∃ j:Nat,j<=p.vars.length/\m=p.vars.length-j/\z = .int .i64 j/\Hid (wr.ownsRow (w.heap.size+1) 3 1 (.slice (some ⟨g,0,none⟩) p.vars.length p.vars.length) p.vars.length ((aQo (aDp p) j).map (Value.int .i64)))/\Bel w wr)
 case atStart=>exact ⟨0,by omega,rfl,rfl,H0,HB⟩
 case round =>
  clear HB H0 HK2 q1 q2;obtain ⟨j,hj,rfl,rfl,HO,HB⟩:=hrel
  by_cases hlt:j<p.vars.length
  .have hd0:decide (j<p.vars.length)=true:=by simpa using hlt
   obtain ⟨b,o,rfl,hb,v0,v1,v2,v3,v4,v5⟩:=(HV.out _ HB).at_ j hlt;obtain ⟨g',e',_,hgl,y1,y2⟩:=aAj HO.out (j:=j) (u := .int .i64 0) (by rw [List.getElem?_map,bHj _ _ (by rw [HN.out];exact hlt)];rfl)
   obtain rfl:g=g':=by simpa using e'
   have hst:=(HO.out.stored j (.int .i64 p.vars[j].kind)).1.alloc (.cells #[.string p.vars[j].name,.int .i64 p.vars[j].kind,.int .i64 p.vars[j].lo,.int .i64 p.vars[j].hi,.int .i64 p.vars[j].perNode,.int .i64 p.vars[j].perID] 132);rw [<- List.map_set,show p.vars[j].kind=(aDp p)[j]'(by rw [HN.out];exact hlt) by simp [aDp],bEm _ _ (by rw [HN.out];exact hlt)] at hst
   have HST:=aA0 hst;have HKE:=aA0 (show (aDp p)[j]'(by rw [HN.out];exact hlt)=p.vars[j].kind by simp [aDp])
   have hne:wr.heap.size≠g:=by omega
   clear hst e'
   go_wp2_with fail
   go_roundg (p.vars.length-(j+1))
   case rel=>exact ⟨j+1,by omega,rfl,by go_num,by rw [HKE.out] at HST;exact HST,(HB.setCell (by simp;omega) _).alloc _⟩
   case measure=>omega
  .have hd0:decide (j<p.vars.length)=false:=by simpa using hlt
   go_wp2_with fail
   go_ret;have h1:=HO.out;rw [bEl _ _ (by rw [HN.out];omega)] at h1
   refine ⟨some ⟨g,0,none⟩,p.vars.length,by rw [HN.out];rfl,by rw [HN.out];exact aVa h1,by rw [HN.out];exact Nat.le_refl _,by unfold maxLen;omega,HB⟩
def aEy (vars:Nat) (r:Rule):Bool :=
 decide (1<=r.sets.length/\r.sets.length<=6)&&aD0 r.guard vars&&r.sets.all (fun s=>decide (0<=s.var/\s.var<=(vars:Int)-1)&&aD0 s.value vars)&&decide ((r.sets.map SetT.var).Nodup)
def aFg (kinds:List Int) (r:Rule):Bool:=(aCx kinds false (aB9 r.guard)==2)&&r.sets.all (fun s=>aCx kinds false (aB9 s.value)==kinds.getD s.var.toNat 0)
structure FOK (vars:Nat) (r:Rule):Prop where
 pos:1<=r.sets.length
 le:r.sets.length<=6
 guard:aD0 r.guard vars=true
 sets:∀ s∈r.sets,(0<=s.var/\s.var<=(vars:Int)-1)/\aD0 s.value vars=true
 diff:(r.sets.map SetT.var).Nodup
theorem aI9 (vars:Nat) (r:Rule):aEy vars r=true↔FOK vars r:=by
 unfold aEy;simp only [Bool.and_eq_true,decide_eq_true_eq,List.all_eq_true]
 constructor
 .rintro ⟨⟨⟨⟨h1,h2⟩,h3⟩,h4⟩,h5⟩
  exact ⟨h1,h2,h3,h4,h5⟩
 .rintro ⟨h1,h2,h3,h4,h5⟩
  exact ⟨⟨⟨⟨h1,h2⟩,h3⟩,h4⟩,h5⟩
theorem bIp {es:List Term} {kinds:List Int} (h6:kinds.length<=6) (hk:kinds.all aH1=true) (hv:aD0 es kinds.length=true):(ofF es kinds false).1=aCx kinds false (aB9 es):=by
 unfold ofF;rw [if_neg (by omega),if_neg (by rw [hk];decide),if_neg (by rw [hv];decide)]
 split
 .rename_i h;rw [h]
 .rfl
theorem aZ9 (v:Value) (r:Rule) (K:Option Addr) (ck:Nat) (kinds:List Int) (w:World) (h:bDw w v r) (hK:aCr w K kinds.length kinds) (h6:kinds.length<=6) (hk:kinds.all aH1=true) (hf:FOK kinds.length r) (hL:aOz r=true) :
  Calls prog 67 #[v,.slice K kinds.length ck] w fun e w'=>e = .returned (.bool (aFg kinds r))/\Bel w w':=by
 obtain ⟨G,c,S,c2,rfl,hG,_,_,hS,_,_⟩:=h;have HG:=aA0 (fun w' (k:Bel w w')=>aCa.keep hG k);clear hG;have HS:=aA0 (fun w' (k:Bel w w')=>aQ6.keep hS k);clear hS;have HK:=aA0 (fun w' (k:Bel w w')=>aCr.keep hK k);clear hK;obtain ⟨_,l2,l3,l4⟩:=aEt hL;have HL4:=aA0 l4;clear l4;have HOg:=aA0 (bIp h6 hk hf.guard);have HFS:=aA0 hf.sets;have HKK:=aA0 hk;have HB:=Bel.refl (w.alloc (.cells #[.string r.name,.slice G r.guard.length c,.slice S r.sets.length c2] 137));clear hL hf hk
 by_cases hg:aCx kinds false (aB9 r.guard)=2
 .have hgb:(aCx kinds false (aB9 r.guard) != 2)=false:=by simp [hg]
  have HGG:=aA0 hg;clear hg;go_enter func67,ntmps67
  go_wp2_with (go_at_call 115;refine (bIo _ _ r.guard _ _ kinds _ _ (HG.out _ (aA6 HB)) (HK.out _ (aA6 HB)) (by omega)).mono ?_;rintro e w' ⟨rfl,hb⟩;rw [HOg.out];replace HB:=HB.trans hb;clear hb;have q1:=aAq HB 2 rfl;have q2:=aDd HB)
  clear q1 q2 hgb
  go_loopg [8,9,10,23] r.sets.length (fun m _x _y _u z wr=>∃ j:Nat,j<=r.sets.length/\m=r.sets.length-j/\z = .int .i64 j/\Hid ((r.sets.take j).all (fun s=>aCx kinds false (aB9 s.value)==kinds.getD s.var.toNat 0)=true)/\Bel (w.alloc (.cells #[.string r.name,.slice G r.guard.length c,.slice S r.sets.length c2] 137)) wr)
  case atStart=>exact ⟨0,by omega,rfl,rfl,rfl,HB⟩
  case round =>
   clear HB;obtain ⟨j,hj,rfl,rfl,HJ,HB⟩:=hrel
   by_cases hlt:j<r.sets.length
   .have hd0:decide (j<r.sets.length)=true:=by simpa using hlt
    obtain ⟨⟨f1,f2⟩,f3⟩:=HFS.out _ (List.getElem_mem hlt);have hlen:=HL4.out _ (List.getElem_mem hlt);have HOs:=aA0 (bIp h6 HKK.out f3);obtain ⟨a,ha⟩:=Int.eq_ofNat_of_zero_le f1;have hak:a<kinds.length:=by omega
    have HAK:Hid (kinds.getD r.sets[j].var.toNat 0=kinds[a]):=by show kinds.getD r.sets[j].var.toNat 0=_;rw [ha,Int.toNat_natCast,aA8 hak]
    obtain ⟨b,o,R,c',rfl,hb,s1,s2,hTv,_,_⟩:=(HS.out _ (aA6 HB)).at_ j hlt;rw [ha] at s1;have HTv:=aA0 (fun w' (k:Bel wr w')=>aCa.keep hTv k);clear hTv;have HAE:=aA0 ha;clear f1 f2 f3 ha;have HB2:=Bel.refl (wr.alloc (.cells #[.int .i64 (a:Int),.slice R r.sets[j].value.length c'] 197))
    go_wp2_with fail
    refine (bIo _ _ r.sets[j].value _ _ kinds _ _ (HTv.out _ (aA6 HB2)) (HK.out _ ((aA6 HB).trans (aA6 HB2))) (by omega)).mono ?_
    rintro e w' ⟨rfl,hb⟩;rw [HOs.out];replace HB2:=HB2.trans hb;clear hb;have q1:=aAq HB2 0 rfl;have q2:=aDd HB2;obtain ⟨bk,ok,rfl,hbk,ck1⟩:=(HK.out _ ((aA6 HB).trans (aA6 HB2))).at_ a hak
    by_cases he:aCx kinds false (aB9 r.sets[j].value)=kinds[a]
    .have heb:(aCx kinds false (aB9 r.sets[j].value) != kinds[a])=false:=by simpa using he
     have HN:=aA0 (aAp hlt HJ.out (by simp only [HAK.out,he,BEq.rfl]))
     clear he
     go_wp2_with fail
     go_roundg (r.sets.length-(j+1))
     case rel=>exact ⟨j+1,by omega,rfl,by go_num,HN,HB.trans (aA6 HB2)⟩
     case measure=>omega
    .have heb:(aCx kinds false (aB9 r.sets[j].value) != kinds[a])=true:=by simpa using he
     have HF:Hid (aFg kinds r=false):=by
      show aFg kinds r=false
      unfold aFg;rw [aCh hlt (by rw [HAK.out];simpa using he)];simp
     clear he
     go_wp2_with fail
     go_ret;exact ⟨aA1 HF.out.symm,(aA6 HB).trans (aA6 HB2)⟩
   .have hd0:decide (j<r.sets.length)=false:=by simpa using hlt
    have HF:Hid (aFg kinds r=true):=by
     show aFg kinds r=true
     unfold aFg;rw [aC1 (by omega) HJ.out,HGG.out];rfl
    go_wp2_with fail
    go_ret;exact ⟨aA1 HF.out.symm,aA6 HB⟩
 .have hgb:(aCx kinds false (aB9 r.guard) != 2)=true:=by simp [hg]
  have HF:Hid (aFg kinds r=false):=by
   show aFg kinds r=false
   unfold aFg;rw [show (aCx kinds false (aB9 r.guard)==2)=false by simpa using hg];rfl
  clear hg;go_enter func67,ntmps67
  go_wp2_with (go_at_call 115;refine (bIo _ _ r.guard _ _ kinds _ _ (HG.out _ (aA6 HB)) (HK.out _ (aA6 HB)) (by omega)).mono ?_;rintro e w' ⟨rfl,hb⟩;rw [HOg.out];replace HB:=HB.trans hb;clear hb)
  go_ret;exact ⟨aA1 HF.out.symm,aA6 HB⟩
theorem aEz {vars:Nat} {r:Rule} (h:¬ FOK vars r):aEy vars r=false:=by
 rw [Bool.eq_false_iff];intro hb;exact h ((aI9 vars r).1 hb)
theorem aG2 {α:Type} {l:List α} {k:Nat} (h:k<l.length) (hn:(l.take k).Nodup) (hne:∀ j (hj:j<k),l[j]≠l[k]):(l.take (k+1)).Nodup:=by
 rw [List.take_succ_eq_append_getElem h,List.nodup_append];refine ⟨hn,by simp,?_⟩
 intro a ha b hb
 simp at hb
 subst hb;rw [List.mem_take_iff_getElem] at ha;obtain ⟨j,hj,rfl⟩:=ha;exact hne j (by omega)
theorem aO4 {α:Type} {l:List α} {j k:Nat} (hj:j<k) (hk:k<l.length) (he:l[j]=l[k]):¬ l.Nodup:=by
 intro hn
 have:=(List.nodup_iff_pairwise_ne.1 hn);rw [List.pairwise_iff_getElem] at this;exact this j k (by omega) hk hj he
def aL3 (l:List ByteArray):Bool:=l.all aJl&&decide l.Nodup
def aFv (p:Prg):Bool:=aJl p.name&&aL3 (p.vars.map Var.name)&&aL3 (p.rules.map Rule.name)
theorem aGj (l:List ByteArray):aL3 l=true↔(∀ s∈l,aJl s=true)/\l.Nodup:=by
 unfold aL3;simp only [Bool.and_eq_true,decide_eq_true_eq,List.all_eq_true]
theorem aMr {p:Prg} (h:¬ aL3 (p.vars.map Var.name)=true):aFv p=false:=by
 unfold aFv;rw [Bool.eq_false_iff.2 h];simp
theorem aMs {p:Prg} (h:¬ aL3 (p.rules.map Rule.name)=true):aFv p=false:=by
 unfold aFv;rw [Bool.eq_false_iff.2 h];simp
def aC6 (p:Prg):Int :=
 if ¬ (1<=p.vars.length/\p.vars.length<=6/\p.rules.length<=12) then 3
 else if aFv p=false then 5
 else if p.vars.all aDq=false then 2
 else if p.rules.all (aEy p.vars.length)=false then 7
 else if p.rules.all (aFg (aDp p))=false then 6
 else 0
theorem aJ7.at_V {w:World} {A:Option Addr} {n:Nat} {xs:List Rule} (h:aJ7 w A n xs) (k:Nat) (hk:k<xs.length) :
  ∃ b o G c S c2,A=some ⟨b,o,none⟩/\b<w.heap.size/\w.cell? ⟨b,o+k*3,none⟩=some (.string xs[k].name)/\w.cell? ⟨b,o+k*3+1,none⟩=some (.slice G xs[k].guard.length c)/\w.cell? ⟨b,o+k*3+2,none⟩=some (.slice S xs[k].sets.length c2)
   /\ bDw w (.agg #[.string xs[k].name,.slice G xs[k].guard.length c,.slice S xs[k].sets.length c2]) xs[k]:=by
 obtain ⟨b,o,G,c,S,c2,e,hb,h1,h2,h3,h4,h5,h6,h7,h8,h9⟩:=h.at_ k hk;exact ⟨b,o,G,c,S,c2,e,hb,h1,h2,h3,G,c,S,c2,rfl,h4,h5,h6,h7,h8,h9⟩
theorem aR0 {p:Prg} (h:p.vars.all aDq=true):(aDp p).all aH1=true:=by
 rw [List.all_eq_true] at *;intro k hk
 obtain ⟨x,hx,rfl⟩:=List.mem_map.1 hk;have:=h x hx;unfold aDq at this;have:=of_decide_eq_true this;unfold aH1;simp
 omega
theorem aF2 (p:Prg):(aDp p).length=p.vars.length:=by simp [aDp]
open Go.RowKit Go.Maps
def aHz (s:ByteArray):Lit := .string s.data.toList
theorem bG7 {a b:ByteArray} (h:aHz a=aHz b):a=b:=by
 unfold aHz at h;injection h with h
 cases a;cases b
 simp only [ByteArray.mk.injEq]
 exact Array.toList_inj.1 h
theorem aIi {s:ByteArray} {l:List ByteArray}:aHz s∈l.map aHz↔s∈l:=by
 constructor
 .intro h
  obtain ⟨x,hx,he⟩:=List.mem_map.1 h
  rwa [bG7 he] at hx
 .exact fun h=>List.mem_map_of_mem h
theorem aPw:Keyed prog 9:=string_keyed underlying9
theorem aPj (w:World):(zeroValue 4).run prog w = .ok (.bool false) w:=by kernel_rfl
theorem aLm {α:Type} {l:List α} {k:Nat} {x:α} (h:x∈l.take k):∃ j,∃ hj:j<l.length,j<k/\l[j]=x:=by
 rw [List.mem_take_iff_getElem] at h;obtain ⟨j,hj,rfl⟩:=h;exact ⟨j,by omega,by omega,rfl⟩
theorem aYc (v:Value) (p:Prg) (w:World) (h:aK5 w v p) (hL:aCc p=true) :
  Calls prog 63 #[v] w fun e w'=>e = .returned (.bool (aFv p))/\Bel w w':=by
 obtain ⟨A,k,A2,k2,rfl,hV,_,_,hR,_,_⟩:=h;have HV:=aA0 (fun w' (k:Bel w w')=>aNh.keep hV k);clear hV;have HR:=aA0 (fun w' (k:Bel w w')=>aJ7.keep hR k);clear hR;obtain ⟨p1,p2,p3,p4,p5⟩:=aBl hL;have HP4:=aA0 p4;have HP5:=aA0 (fun r hr=>(aEt (p5 r hr)).1);clear p4 p5 hL;have HB:=Bel.refl (w.alloc (.cells #[.string p.name,.slice A p.vars.length k,.slice A2 p.rules.length k2] 31));have hmm:=@run_makeMap prog;cases hnm:aJl p.name with
 | false =>
  have HF:Hid (aFv p=false):=by show aFv p=false;unfold aFv;rw [hnm];rfl
  go_enter func63,ntmps63
  go_wp2_with (go_at_call 106;refine (aGc _ _ (by omega)).mono ?_;rintro e w' ⟨rfl,rfl⟩)
  go_ret;exact ⟨aA1 HF.out.symm,aA6 HB⟩
 | true =>
  have HNM:=aA0 hnm;have HS0:=aA0 (aM0.made prog 9 4 (w.alloc (.cells #[.string p.name,.slice A p.vars.length k,.slice A2 p.rules.length k2] 31)));replace HB:=HB.alloc (.map #[] 0);simp only [World.size_alloc] at HS0
  go_enter func63,ntmps63
  go_wp2_with (go_at_call 106;refine (aGc _ _ (by omega)).mono ?_;rintro e w' ⟨rfl,rfl⟩)
  clear hnm
  go_loopg [5,17] p.vars.length (fun m _x z wr=>∃ j:Nat,j<=p.vars.length/\m=p.vars.length-j/\z = .int .i64 j/\Hid ((∀ q,q<j->(hq:q<p.vars.length)->aJl p.vars[q].name=true)/\((p.vars.map Var.name).take j).Nodup)/\Hid (aM0 prog 9 4 wr (w.heap.size+1) j (((p.vars.map Var.name).take j).map aHz))/\Bel (w.alloc (.cells #[.string p.name,.slice A p.vars.length k,.slice A2 p.rules.length k2] 31)) wr)
  case atStart=>exact ⟨0,by omega,rfl,rfl,⟨fun q hq=>absurd hq (by omega),by simp⟩,HS0,HB⟩
  case round =>
   clear HB HS0;obtain ⟨i,hi,rfl,rfl,HJ,HS,HB⟩:=hrel
   by_cases hlt:i<p.vars.length
   .have hd0:decide (i<p.vars.length)=true:=by simpa using hlt
    have hnl:=HP4.out _ (List.getElem_mem hlt);obtain ⟨b,o,rfl,hb,hc0,hc1,hc2,hc3,hc4,hc5⟩:=(HV.out _ (aA6 HB)).at_ i hlt;have hkey:=WideMaps.keyOf_string_mk (P:=prog) (k:=9) underlying9 (s:=p.vars[i].name) (by unfold maxLen;omega)
    have HB2:=HB.alloc (.cells #[.string p.vars[i].name,.int .i64 p.vars[i].kind,.int .i64 p.vars[i].lo,.int .i64 p.vars[i].hi,.int .i64 p.vars[i].perNode,.int .i64 p.vars[i].perID] 132);have HS2:=aA0 (HS.out.keep ((Bel.refl wr).alloc (.cells #[.string p.vars[i].name,.int .i64 p.vars[i].kind,.int .i64 p.vars[i].lo,.int .i64 p.vars[i].hi,.int .i64 p.vars[i].perNode,.int .i64 p.vars[i].perID] 132)));obtain ⟨x,hx,hxi⟩:=HS2.out.look aPw underlying198 underlying4 (aPj _) hkey;have HXI:=aA0 hxi;have hms:=HS2.out.lt;have HKEY:=aA0 hkey;clear hxi hkey;cases hnn:aJl p.vars[i].name with
    | false =>
     have HF:Hid (aFv p=false):=aMr fun hf=>by
      have:=((aGj _).1 hf).1 p.vars[i].name (List.mem_map_of_mem (List.getElem_mem hlt));rw [hnn] at this;cases this
     go_wp2_with (go_at_call 106;refine (aGc _ _ (by omega)).mono ?_;rintro e w' ⟨rfl,rfl⟩)
     go_ret;exact ⟨aA1 HF.out.symm,aA6 HB2⟩
    | true =>
     cases x with
     | true =>
      have HF:Hid (aFv p=false):=aMr fun hf=>by
       have hm:=HXI.out.1 rfl;rw [show (Lit.string p.vars[i].name.data.toList)=aHz p.vars[i].name from rfl,aIi] at hm
       obtain ⟨j,hj1,hj2,hj3⟩:=aLm hm;exact aO4 hj2 (by simpa using hlt) (by rw [hj3];simp) ((aGj _).1 hf).2
      go_wp2_with (go_at_call 106;refine (aGc _ _ (by omega)).mono ?_;rintro e w' ⟨rfl,rfl⟩)
      go_ret;exact ⟨aA1 HF.out.symm,aA6 HB2⟩
     | false =>
      have HNN:=aA0 hnn
      have HT:Hid (((p.vars.map Var.name).take (i+1)).Nodup):=by
       show List.Nodup _
       refine aG2 (by simpa using hlt) HJ.out.2 (fun q hq he=>?_)
       have:(false:Bool)=true:=HXI.out.2 (by
        rw [show (Lit.string p.vars[i].name.data.toList)=aHz p.vars[i].name from rfl,aIi,List.mem_take_iff_getElem]
        refine ⟨q,by simp;omega,?_⟩
        simp at he ⊢
        exact he)
       cases this
      go_wp2_with (first
       | (go_at_call 106;refine (aGc _ _ (by omega)).mono ?_;rintro e w' ⟨rfl,rfl⟩)
       | (at_mapUpdate;refine aGg _ rfl (.tmp 31) (.tmp 33) (.const (.bool true)) 198 rfl 9 4 aPw underlying198 underlying4 (w.heap.size+1) i _ rfl HS2.out (by unfold maxLen;omega) _ _ rfl rfl HKEY.out trivial ?_;intro w3 hset hgr;have HB3:=HB2.map (by simp <;> omega) hgr;have HS3:=aA0 hset;clear hset hgr))
      go_roundg (p.vars.length-(i+1))
      case rel =>
       refine ⟨i+1,by omega,rfl,by go_num,⟨?_,HT.out⟩,?_,HB3⟩
       .intro q hq hq'
        rcases Nat.lt_or_ge q i with h | h
        .exact HJ.out.1 q h hq'
        .obtain rfl:q=i:=by omega
         exact HNN.out
       .obtain ⟨D,d1,d2,d3⟩:=HS3.out
        refine ⟨D,d1,d2,fun kl=>?_⟩
        obtain ⟨y,hy,hyi⟩:=d3 kl;refine ⟨y,hy,?_⟩
        rw [hyi,List.take_succ_eq_append_getElem (by simpa using hlt)]
        simp [aHz,or_comm]
      case measure=>omega
   .have hd0:decide (i<p.vars.length)=false:=by simpa using hlt
    have HE:Hid (aL3 (p.vars.map Var.name)=true):=by
     show aL3 (p.vars.map Var.name)=true
     rw [aGj];obtain ⟨a1,a2⟩:=HJ.out;rw [List.take_of_length_le (by simp;omega)] at a2
     refine ⟨fun s hs=>?_,a2⟩
     obtain ⟨x,hx,rfl⟩:=List.mem_map.1 hs;obtain ⟨q,hq,rfl⟩:=List.getElem_of_mem hx;exact a1 q (by omega) hq
    have HE1:=HE;have q1:=aAq HB 2 rfl;have q2:=aDd HB;have HS0:=aA0 (aM0.made prog 9 4 wr);clear HE HJ HS;have hmb:w.heap.size+1<=wr.heap.size:=by omega
    replace HB:=HB.alloc (.map #[] 0)
    go_wp2_with fail
    clear hd0 q1 q2 hi hlt;generalize hmbe:wr.heap.size=mb at *;clear hmbe
    go_loopg [8,39] p.rules.length (fun m _x z wr=>∃ j:Nat,j<=p.rules.length/\m=p.rules.length-j/\z = .int .i64 j/\Hid ((∀ q,q<j->(hq:q<p.rules.length)->aJl p.rules[q].name=true)/\((p.rules.map Rule.name).take j).Nodup)/\Hid (aM0 prog 9 4 wr (mb) j (((p.rules.map Rule.name).take j).map aHz))/\Bel (w.alloc (.cells #[.string p.name,.slice A p.vars.length k,.slice A2 p.rules.length k2] 31)) wr)
    case atStart=>exact ⟨0,by omega,rfl,rfl,⟨fun q hq=>absurd hq (by omega),by simp⟩,HS0,HB⟩
    case round =>
     clear HB HS0;obtain ⟨i,hi,rfl,rfl,HJ,HS,HB⟩:=hrel
     by_cases hlt:i<p.rules.length
     .have hd0:decide (i<p.rules.length)=true:=by simpa using hlt
      have hnl:=HP5.out _ (List.getElem_mem hlt);obtain ⟨b,o,G,c,S,c2,rfl,hb,hc0,hc1,hc2,_⟩:=(HR.out _ (aA6 HB)).at_ i hlt;have hkey:=WideMaps.keyOf_string_mk (P:=prog) (k:=9) underlying9 (s:=p.rules[i].name) (by unfold maxLen;omega)
      have HB2:=HB.alloc (.cells #[.string p.rules[i].name,.slice G p.rules[i].guard.length c,.slice S p.rules[i].sets.length c2] 137);have HS2:=aA0 (HS.out.keep ((Bel.refl wr).alloc (.cells #[.string p.rules[i].name,.slice G p.rules[i].guard.length c,.slice S p.rules[i].sets.length c2] 137)));obtain ⟨x,hx,hxi⟩:=HS2.out.look aPw underlying198 underlying4 (aPj _) hkey;have HXI:=aA0 hxi;have hms:=HS2.out.lt;have HKEY:=aA0 hkey;clear hxi hkey;cases hnn:aJl p.rules[i].name with
      | false =>
       have HF:Hid (aFv p=false):=aMs fun hf=>by
        have:=((aGj _).1 hf).1 p.rules[i].name (List.mem_map_of_mem (List.getElem_mem hlt));rw [hnn] at this;cases this
       go_wp2_with (go_at_call 106;refine (aGc _ _ (by omega)).mono ?_;rintro e w' ⟨rfl,rfl⟩)
       go_ret;exact ⟨aA1 HF.out.symm,aA6 HB2⟩
      | true =>
       cases x with
       | true =>
        have HF:Hid (aFv p=false):=aMs fun hf=>by
         have hm:=HXI.out.1 rfl;rw [show (Lit.string p.rules[i].name.data.toList)=aHz p.rules[i].name from rfl,aIi] at hm
         obtain ⟨j,hj1,hj2,hj3⟩:=aLm hm;exact aO4 hj2 (by simpa using hlt) (by rw [hj3];simp) ((aGj _).1 hf).2
        go_wp2_with (go_at_call 106;refine (aGc _ _ (by omega)).mono ?_;rintro e w' ⟨rfl,rfl⟩)
        go_ret;exact ⟨aA1 HF.out.symm,aA6 HB2⟩
       | false =>
        have HNN:=aA0 hnn
        have HT:Hid (((p.rules.map Rule.name).take (i+1)).Nodup):=by
         show List.Nodup _
         refine aG2 (by simpa using hlt) HJ.out.2 (fun q hq he=>?_)
         have:(false:Bool)=true:=HXI.out.2 (by
          rw [show (Lit.string p.rules[i].name.data.toList)=aHz p.rules[i].name from rfl,aIi,List.mem_take_iff_getElem]
          refine ⟨q,by simp;omega,?_⟩
          simp at he ⊢
          exact he)
         cases this
        go_wp2_with (first
         | (go_at_call 106;refine (aGc _ _ (by omega)).mono ?_;rintro e w' ⟨rfl,rfl⟩)
         | (at_mapUpdate;refine aGg _ rfl (.tmp 53) (.tmp 55) (.const (.bool true)) 198 rfl 9 4 aPw underlying198 underlying4 (mb) i _ rfl HS2.out (by unfold maxLen;omega) _ _ rfl rfl HKEY.out trivial ?_;intro w3 hset hgr;have HB3:=HB2.map (by simp <;> omega) hgr;have HS3:=aA0 hset;clear hset hgr))
        go_roundg (p.rules.length-(i+1))
        case rel =>
         refine ⟨i+1,by omega,rfl,by go_num,⟨?_,HT.out⟩,?_,HB3⟩
         .intro q hq hq'
          rcases Nat.lt_or_ge q i with h | h
          .exact HJ.out.1 q h hq'
          .obtain rfl:q=i:=by omega
           exact HNN.out
         .obtain ⟨D,d1,d2,d3⟩:=HS3.out
          refine ⟨D,d1,d2,fun kl=>?_⟩
          obtain ⟨y,hy,hyi⟩:=d3 kl;refine ⟨y,hy,?_⟩
          rw [hyi,List.take_succ_eq_append_getElem (by simpa using hlt)]
          simp [aHz,or_comm]
        case measure=>omega
     .have hd0:decide (i<p.rules.length)=false:=by simpa using hlt
      have HE:Hid (aL3 (p.rules.map Rule.name)=true):=by
       show aL3 (p.rules.map Rule.name)=true
       rw [aGj];obtain ⟨a1,a2⟩:=HJ.out;rw [List.take_of_length_le (by simp;omega)] at a2
       refine ⟨fun s hs=>?_,a2⟩
       obtain ⟨x,hx,rfl⟩:=List.mem_map.1 hs;obtain ⟨q,hq,rfl⟩:=List.getElem_of_mem hx;exact a1 q (by omega) hq
      go_wp2_with fail
      go_ret;refine ⟨aA1 ?_,aA6 HB⟩
      symm
      unfold aFv;rw [HNM.out,HE1.out,HE.out];rfl
theorem aMt {n:Nat} (h:1<=n):(n==0)=false:=by simp;omega
theorem aMi {n:Nat} (h:1<=n):((n:Int)==0)=false:=by simp;omega
def aQy (x:Int):Lit := .int .i64 x
theorem aQz {x:Int} {l:List Int}:aQy x∈l.map aQy↔x∈l:=by
 constructor
 .intro h
  obtain ⟨y,hy,he⟩:=List.mem_map.1 h;unfold aQy at he;injection he with _ he
  subst he;exact hy
 .exact fun h=>List.mem_map_of_mem h
theorem bCq:Keyed prog 3:=int_keyed underlying3
theorem aSt (v:Value) (r:Rule) (vars:Nat) (w:World) (h:bDw w v r) (hvars:vars<=1000) (hL:aOz r=true) :
  Calls prog 65 #[v,.int .i64 vars] w fun e w'=>e = .returned (.bool (aEy vars r))/\Bel w w':=by
 obtain ⟨G,c,S,c2,rfl,hG,_,_,hS,_,_⟩:=h;have HG:=aA0 (fun w' (k:Bel w w')=>aCa.keep hG k);clear hG;have HS:=aA0 (fun w' (k:Bel w w')=>aQ6.keep hS k);clear hS;obtain ⟨_,l2,l3,l4⟩:=aEt hL;have HL4:=aA0 l4;clear l4 hL;have HB:=Bel.refl (w.alloc (.cells #[.string r.name,.slice G r.guard.length c,.slice S r.sets.length c2] 137));have hmm:=@run_makeMap prog
 by_cases hn:1<=r.sets.length/\r.sets.length<=6
 .have hz:((r.sets.length:Int)==0)=false:=aMi (by omega)
  have hz':(r.sets.length==0)=false:=aMt (by omega)
  have hz2:decide (6<r.sets.length)=false:=by simp;omega
  cases hvg:aD0 r.guard vars with
  | false =>
   have HF:Hid (aEy vars r=false):=aEz fun h=>by rw [h.guard] at hvg;cases hvg
   go_enter func65,ntmps65
   go_wp2_with (go_at_call 114;refine (aI1 _ _ _ r.guard _ _ (HG.out _ (aA6 HB)) (by omega)).mono ?_;rintro e w' ⟨rfl,hb⟩;rw [hvg];replace HB:=HB.trans hb;clear hb)
   go_ret;exact ⟨aA1 HF.out.symm,aA6 HB⟩
  | true =>
   have HVG:=aA0 hvg;clear hvg;go_enter func65,ntmps65
   go_wp2_with (go_at_call 114;refine (aI1 _ _ _ r.guard _ _ (HG.out _ (aA6 HB)) (by omega)).mono ?_;rintro e w1 ⟨rfl,hb⟩;rw [HVG.out];replace HB:=HB.trans hb;clear hb;have q1:=aAq HB 2 rfl;have q2:=aDd HB)
   clear hz hz' hz2 q1;have HS0:=aA0 (aM0.made prog 3 4 w1);replace HB:=HB.alloc (.map #[] 0);obtain ⟨mb,hmb⟩:∃ mb,w1.heap.size=mb:=⟨_,rfl⟩;rw [hmb] at q2;simp only [hmb] at HS0 ⊢
   clear hmb
   go_loopg [7,29] r.sets.length (fun m _x z wr=>∃ j:Nat,j<=r.sets.length/\m=r.sets.length-j/\z = .int .i64 j/\Hid ((r.sets.take j).all (fun s=>decide (0<=s.var/\s.var<=(vars:Int)-1)&&aD0 s.value vars)=true/\((r.sets.map SetT.var).take j).Nodup)/\Hid (aM0 prog 3 4 wr mb j (((r.sets.map SetT.var).take j).map aQy))/\Bel (w.alloc (.cells #[.string r.name,.slice G r.guard.length c,.slice S r.sets.length c2] 137)) wr)
   case atStart=>exact ⟨0,by omega,rfl,rfl,⟨rfl,by simp⟩,HS0,HB⟩
   case round =>
    clear HB HS0;obtain ⟨i,hi,rfl,rfl,HJ,HM,HB⟩:=hrel
    by_cases hlt:i<r.sets.length
    .have hd0:decide (i<r.sets.length)=true:=by simpa using hlt
     obtain ⟨b,o,R,c',rfl,hb,s1,s2,hTv,_,_⟩:=(HS.out _ (aA6 HB)).at_ i hlt;have HTv:=aA0 (fun w' (k:Bel wr w')=>aCa.keep hTv k);clear hTv;have hlen:=HL4.out _ (List.getElem_mem hlt);have HB2:=Bel.refl (wr.alloc (.cells #[.int .i64 r.sets[i].var,.slice R r.sets[i].value.length c'] 197))
     by_cases hr:0<=r.sets[i].var/\r.sets[i].var<=(vars:Int)-1
     .have hin:inB r.sets[i].var 0 ((vars:Int)-1)=true:=aKb hr.1 hr.2
      have hkey:=keyOf_int_mk (P:=prog) (k:=3) (q := .i64) underlying3 (a:=r.sets[i].var) (WalkArith.wf_i64 (by omega))
      have HM2:=aA0 (HM.out.keep (aA6 HB2));obtain ⟨x,hx,hxi⟩:=HM2.out.look bCq underlying200 underlying4 (aPj _) hkey;have HXI:=aA0 hxi;have HKEY:=aA0 hkey;clear hxi hkey;cases x with
      | true =>
       have HF:Hid (aEy vars r=false):=aEz fun hf=>by
        have hm:=HXI.out.1 rfl;rw [show (Lit.int .i64 r.sets[i].var)=aQy r.sets[i].var from rfl,aQz] at hm
        obtain ⟨j,hj1,hj2,hj3⟩:=aLm hm;exact aO4 hj2 (by simpa using hlt) (by rw [hj3];simp) hf.diff
       go_wp2_with (go_at_call 113;refine (aI2 _ _ _ _).mono ?_;rintro e w' ⟨rfl,rfl⟩)
       go_ret;exact ⟨aA1 HF.out.symm,(aA6 HB).trans (aA6 HB2)⟩
      | false =>
       cases hvs:aD0 r.sets[i].value vars with
       | false =>
        have HF:Hid (aEy vars r=false):=aEz fun h=>by have:=(h.sets _ (List.getElem_mem hlt)).2;rw [hvs] at this;cases this
        go_wp2_with (first
         | (go_at_call 113;refine (aI2 _ _ _ _).mono ?_;rintro e w' ⟨rfl,rfl⟩)
         | (go_at_call 114;refine (aI1 _ _ _ r.sets[i].value _ _ (HTv.out _ (aA6 HB2)) (by omega)).mono ?_;rintro e w' ⟨rfl,hbb⟩;rw [hvs];replace HB2:=HB2.trans hbb;clear hbb))
        go_ret;exact ⟨aA1 HF.out.symm,(aA6 HB).trans (aA6 HB2)⟩
       | true =>
        have HOK:=aA0 (show (decide (0<=r.sets[i].var/\r.sets[i].var<=(vars:Int)-1)&&aD0 r.sets[i].value vars)=true by rw [hvs,decide_eq_true hr];rfl)
        have HVS:=aA0 hvs
        have HT:Hid (((r.sets.map SetT.var).take (i+1)).Nodup):=by
         show List.Nodup _
         refine aG2 (by simpa using hlt) HJ.out.2 (fun q hq he=>?_)
         have:(false:Bool)=true:=HXI.out.2 (by
          rw [show (Lit.int .i64 r.sets[i].var)=aQy r.sets[i].var from rfl,aQz,List.mem_take_iff_getElem]
          refine ⟨q,by simp;omega,?_⟩
          simp at he ⊢
          exact he)
         cases this
        clear hvs hr
        go_wp2_with (first
         | (go_at_call 113;refine (aI2 _ _ _ _).mono ?_;rintro e w' ⟨rfl,rfl⟩)
         | (go_at_call 114;refine (aI1 _ _ _ r.sets[i].value _ _ (HTv.out _ (aA6 HB2)) (by omega)).mono ?_;rintro e w2 ⟨rfl,hbb⟩;rw [HVS.out];replace HB2:=HB2.trans hbb;have HM3:=aA0 (HM2.out.keep hbb);clear hbb hx;have q1:=aAq HB2 0 rfl;have q3:=aDd HB2)
         | (at_mapUpdate;refine aGg _ rfl (.tmp 52) (.tmp 54) (.const (.bool true)) 200 rfl 3 4 bCq underlying200 underlying4 mb i _ rfl HM3.out (by unfold maxLen;omega) _ _ rfl rfl HKEY.out trivial ?_;intro w3 hset hgr;have HB3:=(HB.trans (aA6 HB2)).map (by simp <;> omega) hgr;have HM4:=aA0 hset;clear hset hgr))
        go_roundg (r.sets.length-(i+1))
        case rel =>
         refine ⟨i+1,by omega,rfl,by go_num,⟨aAp hlt HJ.out.1 HOK.out,HT.out⟩,?_,HB3⟩
         obtain ⟨D,d1,d2,d3⟩:=HM4.out;refine ⟨D,d1,d2,fun kl=>?_⟩
         obtain ⟨y,hy,hyi⟩:=d3 kl;refine ⟨y,hy,?_⟩
         rw [hyi,List.take_succ_eq_append_getElem (by simpa using hlt)]
         simp [aQy,or_comm]
        case measure=>omega
     .have hin:inB r.sets[i].var 0 ((vars:Int)-1)=false:=by
       rw [aMh];omega
      have HF:Hid (aEy vars r=false):=aEz fun h=>hr (h.sets _ (List.getElem_mem hlt)).1;clear hr
      go_wp2_with (go_at_call 113;refine (aI2 _ _ _ _).mono ?_;rintro e w' ⟨rfl,rfl⟩)
      go_ret;exact ⟨aA1 HF.out.symm,(aA6 HB).trans (aA6 HB2)⟩
    .have hd0:decide (i<r.sets.length)=false:=by simpa using hlt
     go_wp2_with fail
     go_ret;refine ⟨aA1 ?_,aA6 HB⟩
     symm
     rw [aI9];obtain ⟨a1,a2⟩:=HJ.out;rw [List.take_of_length_le (by omega)] at a1
     rw [List.take_of_length_le (by simp;omega)] at a2
     refine ⟨hn.1,hn.2,HVG.out,fun s hs=>?_,a2⟩
     have:=List.all_eq_true.1 a1 s hs;rw [Bool.and_eq_true] at this;exact ⟨of_decide_eq_true this.1,this.2⟩
 .have HF:Hid (aEy vars r=false):=aEz fun h=>hn ⟨h.pos,h.le⟩
  rcases (show r.sets.length=0∨6<r.sets.length by omega) with h0 | h0
  .have hz:((r.sets.length:Int)==0)=true:=by simp [h0]
   have hz':(r.sets.length==0)=true:=by simp [h0]
   clear hn;have HH:=aA0 h0;clear h0;go_enter func65,ntmps65
   go_wp2_with fail
   go_ret;exact ⟨aA1 HF.out.symm,aA6 HB⟩
  .have hz:((r.sets.length:Int)==0)=false:=aMi (by omega)
   have hz':(r.sets.length==0)=false:=aMt (by omega)
   have hz2:decide (6<r.sets.length)=true:=by simpa using h0
   clear hn;go_enter func65,ntmps65
   go_wp2_with fail
   go_ret;exact ⟨aA1 HF.out.symm,aA6 HB⟩
end Go.Proofs.YtmoebklkkjbigaaGreatDoor

