/- Merged. -/
import Derived.Test.YtdcjnhoabbdanaaGreatDoorZ29
import Derived.Test.YtdcjnhoabbdanaaGreatDoorZ30
set_option linter.unusedSimpArgs false
set_option linter.unnecessarySimpa false
set_option linter.unusedVariables false
set_option maxRecDepth 100000
set_option maxHeartbeats 4000000
open Go.Proofs.Tryz

namespace Go.Proofs.YtdcjnhoabbdanaaGreatDoor
open Go.RowKit
theorem aNg (N0:Nat) (en:Trc->Nat) (ok:Trc->Prop):Seer prog N0 37 #[] aIr en ok (fun M _ w=>∀ k,M k->k<w.heap.size) where
 enter:=fun a b d w=>by kernel_rfl
 dom:=fun M s w h=>h
 keep:=fun M s w W h hz _ k hk=>Nat.lt_of_lt_of_le (h k hk) hz
 grow:=fun M M' s w _ _ h=>h
 call:=fun M s w v t _ h hC _=>by
  have hb:Bel w (w.alloc (.cells (aFd t.count) 36)):=(Bel.refl w).alloc _;have HB:=aA0 hb;have HM:=aA0 h;clear hb h hC;unfold aIr;unfold aFd at HB;go_enter func37,ntmps37
  go_wp2_with fail
  go_end0
  exact ⟨⟨_,rfl⟩,M,fun k hk=>Nat.lt_of_lt_of_le (HM.out k hk) HB.out.size,Agr.of_belM HB.out,fun k hk=>hk,fun k hk => .inl hk⟩
section
variable {bx by':Nat} {M C:Nat->Prop} {s:List (Value × Trc)} {w W:World} {AX:Option Addr} {cX:Nat} {AY:Option Addr} {cY:Nat} {hs:List Value}
end
variable {p:Prg} {g:Graph} {kind:Int}
theorem bAh {c:aA6} (l:List Nat):aKx p g kind (fun i _=>l.getD i 0) (fun _ _=>true) l.length 0 (aAe p g c)=aB1 p g kind (aAe p g c) l:=by
 rw [aSm l l.length 0 _ (by omega),List.drop_zero]
theorem aO5:∀ {l:List Nat} {t u:Trc},OkT p g t->(∀ S∈l,S<4294967296)->(∀ E∈t.enabled,E<4294967296)->aB1 p g kind t l=some u->∀ E∈u.enabled,E<4294967296
 | [],t,u,_,_,hE,h=>by
  unfold aB1 at h;obtain rfl:=Option.some.inj h;exact hE
 | S :: l,t,u,ht,hS,hE,h=>by
  unfold aB1 at h;split at h
  .rename_i h1
   have hn:=ht.next (hS S List.mem_cons_self) h1;refine aO5 hn (fun x hx=>hS x (List.mem_cons_of_mem _ hx)) (fun E he=>?_) h
   rcases List.mem_append.1 he with he | he
   .exact hE E he
   .obtain rfl:=List.mem_singleton.1 he
    have:=aFs hn.mem;exact Nat.lt_trans this (by decide)
  .cases h
variable {p:Prg} {g:Graph} {kind:Int} {c:aA6}
theorem bAu {l m:List Nat} {t a b:Trc} (hP:LassoP p g kind c l m t a b) (hm:∀ S∈m,S<4294967296) (h:aB1 p g kind (aAe p g c) (l++m)=some t) :
  (aM9 p g kind (fun i _=>(l++m).getD i 0) (fun _ _=>true) (l++m).length 0 (aAe p g c))[l.length]?=some a /\
   ((aM9 p g kind (fun i _=>(l++m).getD i 0) (fun _ _=>true) (l++m).length 0 (aAe p g c)).drop l.length).map (fun t=>aAk p g t.last)=b.enabled:=by
 obtain ⟨v1,v2⟩:=aT1 (l++m) (l++m).length 0 (aAe p g c) t (by omega) (by rw [List.drop_zero];exact h)
 rw [List.drop_zero] at v2;generalize aM9 p g kind (fun i _=>(l++m).getD i 0) (fun _ _=>true) (l++m).length 0 (aAe p g c)=vs at *;have hl:(l++m).length=l.length+m.length:=List.length_append
 have hbl:b.enabled.length=m.length+1:=by
  rw [hP.okB.len,aGb hP.second];simp [aAe]
 constructor
 .obtain ⟨u,u1,_,u3⟩:=hP.way 0 (Nat.zero_le _)
  rw [Nat.add_zero,v2 _ (by omega)] at u1
  rw [u1,u3 rfl]
 .apply List.ext_getElem?
  intro i
  rw [List.getElem?_map,List.getElem?_drop]
  by_cases hi:i<=m.length
  .obtain ⟨u,u1,u2,_⟩:=hP.way i hi
   rw [v2 _ (by omega)] at u1
   rw [u1,u2];rfl
  .rw [List.getElem?_eq_none (by omega),List.getElem?_eq_none (by omega)];rfl
theorem aYz {l m:List Nat} {t a b:Trc} (hP:LassoP p g 4 c l m t a b) (h0:m≠[]) (n:Nat):aGp n (b.enabled.zip m)=true:=by
 unfold aGp;rw [List.all_eq_true];intro v _
 rw [List.any_eq_true];obtain ⟨S,m',rfl,h2,h3⟩:=aUi h0 hP.second v;obtain ⟨u,u1,u2,u3⟩:=hP.way 0 (Nat.zero_le _);have hE:b.enabled[0]?=some (aAk p g a.last):=by rw [u2,u3 rfl]
 cases hb:b.enabled with
 | nil=>rw [hb] at hE;simp at hE
 | cons E es =>
  rw [hb] at hE;obtain rfl:E=aAk p g a.last:=by simpa using hE
  exact ⟨_,List.mem_cons_self,h3⟩
theorem aUp {E:Nat} (h:E<4294967296):bits .xor .u32 (if IntKind.u32.signed=true then -1 else IntKind.u32.max) (E:Int)=((4294967295-E:Nat):Int):=by
 have e:4294967295 ^^^ E=4294967295-E:=by
  apply Nat.eq_of_testBit_eq
  intro v
  have h1:=Nat.testBit_two_pow_sub_succ (n:=32) (x:=E) h v;rw [show (2:Nat) ^ 32-(E+1)=4294967295-E by omega] at h1
  rw [h1,Nat.testBit_xor,show (4294967295:Nat)=2 ^ 32-1 from rfl,Nat.testBit_two_pow_sub_one]
  by_cases hv:v<32
  .rw [decide_eq_true hv];cases E.testBit v <;> rfl
  .rw [decide_eq_false hv,Nat.testBit_lt_two_pow (Nat.lt_of_lt_of_le h (Nat.pow_le_pow_right (n:=2) (by decide) (show 32<=v by omega)))];rfl
 rw [<- e]
 have e2:(BitVec.ofNat 32 4294967295 ^^^ BitVec.ofNat 32 E).toNat=4294967295 ^^^ E:=by
  simp only [BitVec.toNat_xor,BitVec.toNat_ofNat]
  rw [Nat.mod_eq_of_lt (by omega),Nat.mod_eq_of_lt (by omega)]
 show bits .xor .u32 ((4294967295:Nat):Int) (E:Int)=_
 unfold bits;simp only [bv32]
 show IntKind.u32.wrap ((BitVec.ofNat 32 4294967295 ^^^ BitVec.ofNat 32 E).toNat:Int)=_
 rw [e2];exact aMo (by rw [e];omega)
theorem aVh {α β:Type}:∀ (a:List α) (l:List β) (x:α),(a++[x]).zip l=a.zip l++(match l[a.length]? with | some y=>[(x,y)] | none=>[])
 | [],[],x=>rfl
 | [],y :: l,x=>by simp
 | z :: a,[],x=>rfl
 | z :: a,y :: l,x=>by
  rw [List.cons_append,List.zip_cons_cons,aVh a l x,List.zip_cons_cons,List.cons_append];simp
def aF5 (s:List (Value × Trc)) (n:Nat):Value:=match s[n]? with | some x=>x.1 | none => .slice none 0 0
def aC9 (en:Trc->Nat) (s:List (Value × Trc)) (n:Nat) (l:List Nat):Nat:=aT6 (((s.drop n).map fun x=>en x.2).zip l) 0
theorem aUh (s:List (Value × Trc)) (n:Nat) (x:Value × Trc):aF5 (s++[x]) n=if s.length=n then x.1 else aF5 s n:=by
 unfold aF5
 by_cases h:s.length=n
 .rw [if_pos h,List.getElem?_append_right (by omega),h];simp
 .rw [if_neg h]
  by_cases h2:n<s.length
  .rw [List.getElem?_append_left h2]
  .rw [List.getElem?_append_right (by omega),List.getElem?_eq_none (by simp;omega),List.getElem?_eq_none (by omega)]
theorem aWn (en:Trc->Nat) (s:List (Value × Trc)) (n:Nat) (l:List Nat) (x:Value × Trc):aC9 en (s++[x]) n l=if n<=s.length then (match l[s.length-n]? with | some y=>aZb (aC9 en s n l) (en x.2) y | none=>aC9 en s n l) else aC9 en s n l:=by
 unfold aC9
 by_cases h:n<=s.length
 .rw [if_pos h,List.drop_append_of_le_length h,List.map_append,List.map_cons,List.map_nil,aVh,List.length_map,List.length_drop]
  cases hl:l[s.length-n]? with
  | none=>simp
  | some y=>simp only;rw [aSr]
 .rw [if_neg h,List.drop_append,List.drop_of_length_le (by omega:s.length<=n)]
  have:([x]:List (Value × Trc)).drop (n-s.length)=[]:=List.drop_of_length_le (by simp;omega)
  rw [this];simp
theorem aVa (en:Trc->Nat) (s:List (Value × Trc)) (n:Nat) {l:List Nat} (hl:∀ y∈l,y<4294967296):aC9 en s n l<4294967296:=by
 refine aYu _ _ (by decide) fun x hx=>hl _ (List.of_mem_zip (a:=x.1) (b:=x.2) hx).2
structure RepI (N0:Nat) (en:Trc->Nat) (ba bp bs bn bv bl:Nat) (Ap:Option Addr) (np cp:Nat) (Al:Option Addr) (cl:Nat) (l:List Nat) (M:Nat->Prop) (s:List (Value × Trc)) (w:World):Prop where
 xa:Boxed w ba 3 (.int .i64 (s.length:Int))
 xp:Boxed w bp 31 (.slice Ap np cp)
 xs:Boxed w bs 30 (aF5 s np)
 xn:Boxed w bn 3 (.int .i64 ((np+l.length:Nat):Int))
 xv:Boxed w bv 34 (.int .u32 (aC9 en s np l:Int))
 xl:Boxed w bl 31 (.slice Al l.length cl)
 inM:∀ k,k=ba∨k=bp∨k=bs∨k=bn∨k=bv∨k=bl->M k
 dom:∀ k,M k->k<w.heap.size
 row:∀ W,w.heap.size<=W.heap.size->(∀ k,k<N0->W.heap[k]?=w.heap[k]?)->aAa W Al l.length l
variable {N0:Nat} {en:Trc->Nat} {ba bp bs bn bv bl:Nat} {Ap:Option Addr} {np cp:Nat} {Al:Option Addr} {cl:Nat} {l:List Nat} {M:Nat->Prop} {s:List (Value × Trc)} {w:World}
theorem RepI.keep {W:World} (h:RepI N0 en ba bp bs bn bv bl Ap np cp Al cl l M s w) (hz:w.heap.size<=W.heap.size) (hk:∀ k,M k∨k<N0->W.heap[k]?=w.heap[k]?):RepI N0 en ba bp bs bn bv bl Ap np cp Al cl l M s W where
 xa:=(hk _ (.inl (h.inM _ (.inl rfl)))).trans h.xa
 xp:=(hk _ (.inl (h.inM _ (.inr (.inl rfl))))).trans h.xp
 xs:=(hk _ (.inl (h.inM _ (.inr (.inr (.inl rfl)))))).trans h.xs
 xn:=(hk _ (.inl (h.inM _ (.inr (.inr (.inr (.inl rfl))))))).trans h.xn
 xv:=(hk _ (.inl (h.inM _ (.inr (.inr (.inr (.inr (.inl rfl)))))))).trans h.xv
 xl:=(hk _ (.inl (h.inM _ (.inr (.inr (.inr (.inr (.inr rfl)))))))).trans h.xl
 inM:=h.inM
 dom:=fun k hm=>Nat.lt_of_lt_of_le (h.dom k hm) hz
 row:=fun V hV hkV=>h.row V (Nat.le_trans hz hV) fun k hk2=>(hkV k hk2).trans (hk k (.inr hk2))
def Six (ba bp bs bn bv bl:Nat):Prop:=bp<bl/\bl<bv/\bv<bn/\bn<bs/\bs<ba
theorem RepI.next (h:RepI N0 en ba bp bs bn bv bl Ap np cp Al cl l M s w) (h6:Six ba bp bs bn bv bl) (hN:N0<=bp) {W:World} {x:Value × Trc} (hA:Agr (fun k=>k=ba∨k=bs∨k=bv) w W) (xa:Boxed W ba 3 (.int .i64 ((s.length+1:Nat):Int)))
  (xs:Boxed W bs 30 (aF5 (s++[x]) np)) (xv:Boxed W bv 34 (.int .u32 (aC9 en (s++[x]) np l:Int))):RepI N0 en ba bp bs bn bv bl Ap np cp Al cl l M (s++[x]) W where
 xa:=by rw [List.length_append];exact xa
 xp:=hA.boxed h.xp (by obtain ⟨a1,a2,a3,a4,a5⟩:=h6;omega)
 xs:=xs
 xn:=hA.boxed h.xn (by obtain ⟨a1,a2,a3,a4,a5⟩:=h6;omega)
 xv:=xv
 xl:=hA.boxed h.xl (by obtain ⟨a1,a2,a3,a4,a5⟩:=h6;omega)
 inM:=h.inM
 dom:=fun k hm=>Nat.lt_of_lt_of_le (h.dom k hm) hA.size
 row:=fun V hV hkV=>h.row V (Nat.le_trans hA.size hV) fun k hk2=>(hkV k hk2).trans (hA.block k (by have:=h.xp.lt;omega) (by obtain ⟨a1,a2,a3,a4,a5⟩:=h6;omega))
theorem aUd (h:RepI N0 en ba bp bs bn bv bl Ap np cp Al cl l M s w) (h6:Six ba bp bs bn bv bl) (hN:N0<=bp) (hn:s.length<=300) (_:np<=200) (hll:l.length<=200) (hl32:∀ y∈l,y<4294967296) (A5:Option Addr) (k5:Nat) (t:Trc) (hE:en t<4294967296) :
  Calls prog 77 #[.slice A5 t.last.length k5,.int .u32 (en t:Int),aIr t.count,.pointer (some ⟨ba,0,none⟩),.pointer (some ⟨bp,0,none⟩),.pointer (some ⟨bs,0,none⟩),.pointer (some ⟨bn,0,none⟩),.pointer (some ⟨bv,0,none⟩),.pointer (some ⟨bl,0,none⟩)] w fun e w' =>
   (∃ x,e = .returned x)/\RepI N0 en ba bp bs bn bv bl Ap np cp Al cl l M (s++[(.slice A5 t.last.length k5,t)]) w'/\Agr M w w':=by
 have HI:=aA0 h;have H6:=aA0 h6;obtain ⟨o1,o2,o3,o4,o5⟩:=h6;have HE:Hid (Bel w (w.alloc (.cells (aFd t.count) 36))):=(Bel.refl w).alloc _;have HS1:=aA0 (aUh s np (.slice A5 t.last.length k5,t));have HS2:=aA0 (aWn en s np l (.slice A5 t.last.length k5,t));have hsv:=aVa en s np hl32;have hbA:=h.xa.lt
 have HM3:Hid (∀ k,(k=ba∨k=bs∨k=bv)->M k):=fun k hk=>h.inM k (by
  rcases hk with e | e | e
  .exact .inl e
  .exact .inr (.inr (.inl e))
  .exact .inr (.inr (.inr (.inr (.inl e)))))
 clear h;unfold aIr;unfold aFd at HE;generalize hEn:en t=E at *;clear hEn;go_enter func77,ntmps77
 go_upto_region 1 with fail
 generalize w.alloc (.cells #[.int .i64 t.count.steps,.int .i64 t.count.moves,.int .i64 t.count.rounds,.int .i64 t.count.begun,.int .u32 (t.count.pending:Int)] 36)=W at *;have HIW:=aA0 (HI.out.keep HE.out.size fun k hk=>HE.out.block k (hk.elim (HI.out.dom k) fun e=>by omega))
 have HAG:Hid (Agr (fun k=>k=ba∨k=bs∨k=bv) w W):=Agr.of_belM HE.out;have XA:=aA0 HIW.out.xa;have XP:=aA0 HIW.out.xp;have XS:=aA0 HIW.out.xs;have XN:=aA0 HIW.out.xn;have XV:=aA0 HIW.out.xv;have XL:=aA0 HIW.out.xl
 by_cases c1:s.length=np
 .by_cases c3:0<l.length
  .obtain ⟨j,hj⟩:∃ j,j=0:=⟨0,rfl⟩
   replace c3:j<l.length:=by omega
   have d1:((s.length:Int)==(np:Int))=true:=by simp;omega
   have d1':(s.length==np)=true:=by simp;omega
   have d2:decide (np<=s.length)=true:=by simp;omega
   have d3:decide (s.length<np+l.length)=true:=by simp;omega
   have d3I:decide ((s.length:Int)<(np:Int)+(l.length:Int))=true:=by simp;omega
   have HSV:Hid (aF5 (s++[(.slice A5 t.last.length k5,t)]) np = .slice A5 t.last.length k5):=by have:=HS1.out;rw [if_pos c1] at this;exact this
   have e7:(s.length:Int)-(np:Int)=(j:Int):=by omega
   have d4:decide (j<l.length)=true:=by simp;omega
   have HSW:Hid (aC9 en (s++[(.slice A5 t.last.length k5,t)]) np l=aZb (aC9 en s np l) E l[j]):=by have:=HS2.out;rw [if_pos (by omega),show s.length-np=j by omega,List.getElem?_eq_getElem c3] at this;exact this
   have hlj:l[j]<4294967296:=hl32 _ (List.getElem_mem c3);have e9:IntKind.i64.wrap (j:Int)=(j:Int):=IntWalk.i64_in _ ⟨by omega,by omega⟩
   have HJ:=aA0 hj;clear hj;have HC1:=aA0 c1;clear c1 HS1 HS2;obtain ⟨xa0,xa1,xa2⟩:=aA4 XA.out;obtain ⟨xp0,xp1,xp2⟩:=aA4 XP.out;obtain ⟨xs0,xs1,xs2⟩:=aA4 XS.out;obtain ⟨xn0,xn1,xn2⟩:=aA4 XN.out;obtain ⟨xv0,xv1,xv2⟩:=aA4 XV.out;obtain ⟨xl0,xl1,xl2⟩:=aA4 XL.out
   go_upto_region 3 with fail
   clear xa0 xa1 xa2 xp0 xp1 xp2 xs0 xs1 xs2 xn0 xn1 xn2 xv0 xv1 xv2 xl0 xl1 xl2;replace XA:=aA0 (show Boxed (W.setCell ⟨bs,0,none⟩ (.slice A5 t.last.length k5)) ba _ _ from Blk.other (show Blk W ba _ _ from XA.out) (by show ba≠bs;omega) _)
   replace XP:=aA0 (show Boxed (W.setCell ⟨bs,0,none⟩ (.slice A5 t.last.length k5)) bp _ _ from Blk.other (show Blk W bp _ _ from XP.out) (by show bp≠bs;omega) _)
   replace XS:Hid (Boxed (W.setCell ⟨bs,0,none⟩ (.slice A5 t.last.length k5)) bs 30 (.slice A5 t.last.length k5)):=Boxed.set _ (show Boxed W _ _ _ from XS.out)
   replace XN:=aA0 (show Boxed (W.setCell ⟨bs,0,none⟩ (.slice A5 t.last.length k5)) bn _ _ from Blk.other (show Blk W bn _ _ from XN.out) (by show bn≠bs;omega) _)
   replace XV:=aA0 (show Boxed (W.setCell ⟨bs,0,none⟩ (.slice A5 t.last.length k5)) bv _ _ from Blk.other (show Blk W bv _ _ from XV.out) (by show bv≠bs;omega) _)
   replace XL:=aA0 (show Boxed (W.setCell ⟨bs,0,none⟩ (.slice A5 t.last.length k5)) bl _ _ from Blk.other (show Blk W bl _ _ from XL.out) (by show bl≠bs;omega) _)
   replace HAG:Hid (Agr (fun k=>k=ba∨k=bs∨k=bv) w (W.setCell ⟨bs,0,none⟩ (.slice A5 t.last.length k5))):=(HAG.out.trans (Agr.setCell _ _ _ (by show _∨_∨_;simp)))
   generalize W.setCell ⟨bs,0,none⟩ (.slice A5 t.last.length k5)=W2 at *;obtain ⟨xa0,xa1,xa2⟩:=aA4 XA.out;obtain ⟨xp0,xp1,xp2⟩:=aA4 XP.out;obtain ⟨xs0,xs1,xs2⟩:=aA4 XS.out;obtain ⟨xn0,xn1,xn2⟩:=aA4 XN.out;obtain ⟨xv0,xv1,xv2⟩:=aA4 XV.out;obtain ⟨xl0,xl1,xl2⟩:=aA4 XL.out
   go_upto_region 4 with fail
   obtain ⟨b,o,e8,hb,hc⟩:=(HI.out.row W2 HAG.out.size (fun k hk=>HAG.out.block k (by omega) (by omega))).at_ j c3
   subst e8;generalize l[j]=y at *;have q1:bits .or .u32 (((4294967295-E:Nat):Int)) (y:Int)=(((4294967295-E)|||y:Nat):Int):=aKz (by omega) hlj
   have hx2:(4294967295-E)|||y<4294967296:=Nat.or_lt_two_pow (n:=32) (by omega) hlj
   have q2:=aKz hsv hx2;refine aA7.start (fun w'=>w'.cell? ⟨ba,0,none⟩=some (.int .i64 (s.length:Int))/\w'.cell? ⟨bp,0,none⟩=some (.slice Ap np cp)/\w'.cell? ⟨bv,0,none⟩=some (.int .u32 (aC9 en s np l:Int))/\w'.cell? ⟨bl,0,none⟩=some (.slice (some ⟨b,o,none⟩) l.length cl)/\w'.cell? ⟨b,o+j,none⟩=some (.int .u32 (y:Int))/\ba<w'.heap.size/\bp<w'.heap.size/\bv<w'.heap.size/\bl<w'.heap.size/\b<w'.heap.size) 12 (by kernel_rfl) ?_
   have hHeld:W2.drew.cell? ⟨ba,0,none⟩=some (.int .i64 (s.length:Int))/\W2.drew.cell? ⟨bp,0,none⟩=some (.slice Ap np cp)/\W2.drew.cell? ⟨bv,0,none⟩=some (.int .u32 (aC9 en s np l:Int))/\W2.drew.cell? ⟨bl,0,none⟩=some (.slice (some ⟨b,o,none⟩) l.length cl)/\W2.drew.cell? ⟨b,o+j,none⟩=some (.int .u32 (y:Int))/\ba<W2.drew.heap.size/\bp<W2.drew.heap.size/\bv<W2.drew.heap.size/\bl<W2.drew.heap.size/\b<W2.drew.heap.size:=⟨xa0,xp0,xv0,xl0,hc,xa2,xp2,xv2,xl2,hb⟩
   (refine aA7.t (v:=?_) 0 26 rfl rfl (by kernel_rfl) (fun _ _ _ h=>h) hHeld (Or.inl ⟨by rfl,?_⟩) ?_;rotate_left 1;focus (intro w' hSw;(try dsimp only at hSw);go_simp;(try with_reducible rfl);done));(refine aA7.t (v:=?_) 1 27 rfl rfl (by kernel_rfl) (fun _ _ _ h=>h) hHeld (Or.inl ⟨by rfl,?_⟩) ?_;rotate_left 1;focus (intro w' hSw;(try dsimp only at hSw);go_simp;(try with_reducible rfl);done));(refine aA7.t (v:=?_) 2 28 rfl rfl (by kernel_rfl) (fun _ _ _ h=>h) hHeld (Or.inl ⟨by rfl,?_⟩) ?_;rotate_left 1;focus (intro w' hSw;(try dsimp only at hSw);go_simp;(try with_reducible rfl);done));(refine aA7.t (v:=?_) 3 29 rfl rfl (by kernel_rfl) (fun _ _ _ h=>h) hHeld (Or.inl ⟨by rfl,?_⟩) ?_;rotate_left 1;focus (intro w' hSw;(try dsimp only at hSw);go_simp;(try with_reducible rfl);done));(refine aA7.t (v:=?_) 4 30 rfl rfl (by kernel_rfl) (fun _ _ _ h=>h) hHeld (Or.inl ⟨by rfl,?_⟩) ?_;rotate_left 1;focus (intro w' hSw;(try dsimp only at hSw);go_simp;(try with_reducible rfl);done));(refine aA7.t (v:=?_) 5 31 rfl rfl (by kernel_rfl) (fun _ _ _ h=>h) hHeld (Or.inl ⟨by rfl,?_⟩) ?_;rotate_left 1;focus (intro w' hSw;(try dsimp only at hSw);go_simp;(try with_reducible rfl);done));(refine aA7.t (v:=?_) 6 32 rfl rfl (by kernel_rfl) (fun _ _ _ h=>h) hHeld (Or.inl ⟨by rfl,?_⟩) ?_;rotate_left 1;focus (intro w' hSw;(try dsimp only at hSw);go_simp;(try with_reducible rfl);done));(refine aA7.t (v:=?_) 7 33 rfl rfl (by kernel_rfl) (fun _ _ _ h=>h) hHeld (Or.inl ⟨by rfl,?_⟩) ?_;rotate_left 1;focus (intro w' hSw;(try dsimp only at hSw);go_simp;(try with_reducible rfl);done));(refine aA7.t (v:=?_) 8 34 rfl rfl (by kernel_rfl) (fun _ _ _ h=>h) hHeld (Or.inl ⟨by rfl,?_⟩) ?_;rotate_left 1;focus (intro w' hSw;(try dsimp only at hSw);go_simp;(try with_reducible rfl);done));(refine aA7.t (v:=?_) 9 35 rfl rfl (by kernel_rfl) (fun _ _ _ h=>h) hHeld (Or.inl ⟨by rfl,?_⟩) ?_;rotate_left 1;focus (intro w' hSw;(try dsimp only at hSw);go_simp;(try with_reducible rfl);done));(refine aA7.t (v:=?_) 10 36 rfl rfl (by kernel_rfl) (fun _ _ _ h=>h) hHeld (Or.inl ⟨by rfl,?_⟩) ?_;rotate_left 1;focus (intro w' hSw;(try dsimp only at hSw);go_simp;(try with_reducible rfl);done));(refine aA7.t (v:=?_) 11 37 rfl rfl (by kernel_rfl) (fun _ _ _ h=>h) hHeld (Or.inl ⟨by rfl,?_⟩) ?_;rotate_left 1;focus (intro w' hSw;(try dsimp only at hSw);go_simp;(try with_reducible rfl);done))
   (refine aA7.one (i:=12) (by kernel_rfl) rfl (fun K hK=>?_));go_simp;refine hK.out _ _ (fun h=>absurd rfl h) ?_;clear hK K;refine aA7.done (by kernel_rfl) ?_ _;(try simp only [Act.put,List.setIfInBounds_toArray,List.set_cons_zero,List.set_cons_succ])
   rw [aUp (by omega),q1,q2]
   clear hHeld hb hc q1 q2 hlj;clear xa0 xa1 xa2 xp0 xp1 xp2 xs0 xs1 xs2 xn0 xn1 xn2 xv0 xv1 xv2 xl0 xl1 xl2;replace XA:=aA0 (show Boxed ((W2.setCell ⟨bv,0,none⟩ (.int .u32 ((aC9 en s np l|||(4294967295-E|||y):Nat):Int))).drew) ba _ _ from Blk.other (show Blk W2 ba _ _ from XA.out) (by show ba≠bv;omega) _)
   replace XP:=aA0 (show Boxed ((W2.setCell ⟨bv,0,none⟩ (.int .u32 ((aC9 en s np l|||(4294967295-E|||y):Nat):Int))).drew) bp _ _ from Blk.other (show Blk W2 bp _ _ from XP.out) (by show bp≠bv;omega) _)
   replace XS:=aA0 (show Boxed ((W2.setCell ⟨bv,0,none⟩ (.int .u32 ((aC9 en s np l|||(4294967295-E|||y):Nat):Int))).drew) bs _ _ from Blk.other (show Blk W2 bs _ _ from XS.out) (by show bs≠bv;omega) _)
   replace XN:=aA0 (show Boxed ((W2.setCell ⟨bv,0,none⟩ (.int .u32 ((aC9 en s np l|||(4294967295-E|||y):Nat):Int))).drew) bn _ _ from Blk.other (show Blk W2 bn _ _ from XN.out) (by show bn≠bv;omega) _)
   replace XV:Hid (Boxed ((W2.setCell ⟨bv,0,none⟩ (.int .u32 ((aC9 en s np l|||(4294967295-E|||y):Nat):Int))).drew) bv 34 (.int .u32 ((aC9 en s np l|||(4294967295-E|||y):Nat):Int))):=Boxed.set _ (show Boxed W2 _ _ _ from XV.out)
   replace XL:=aA0 (show Boxed ((W2.setCell ⟨bv,0,none⟩ (.int .u32 ((aC9 en s np l|||(4294967295-E|||y):Nat):Int))).drew) bl _ _ from Blk.other (show Blk W2 bl _ _ from XL.out) (by show bl≠bv;omega) _)
   replace HAG:Hid (Agr (fun k=>k=ba∨k=bs∨k=bv) w ((W2.setCell ⟨bv,0,none⟩ (.int .u32 ((aC9 en s np l|||(4294967295-E|||y):Nat):Int))).drew)):=(HAG.out.trans (Agr.setCell _ _ _ (by show _∨_∨_;simp))).drew
   generalize (W2.setCell ⟨bv,0,none⟩ (.int .u32 ((aC9 en s np l|||(4294967295-E|||y):Nat):Int))).drew=W3 at *;obtain ⟨xa0,xa1,xa2⟩:=aA4 XA.out;obtain ⟨xp0,xp1,xp2⟩:=aA4 XP.out;obtain ⟨xs0,xs1,xs2⟩:=aA4 XS.out;obtain ⟨xn0,xn1,xn2⟩:=aA4 XN.out;obtain ⟨xv0,xv1,xv2⟩:=aA4 XV.out;obtain ⟨xl0,xl1,xl2⟩:=aA4 XL.out
   go_wp2_with fail
   go_end0
   clear xa0 xa1 xa2 xp0 xp1 xp2 xs0 xs1 xs2 xn0 xn1 xn2 xv0 xv1 xv2 xl0 xl1 xl2;replace XA:Hid (Boxed (W3.setCell ⟨ba,0,none⟩ (.int .i64 ((s.length:Int)+1))) ba 3 (.int .i64 ((s.length:Int)+1))):=Boxed.set _ (show Boxed W3 _ _ _ from XA.out)
   replace XP:=aA0 (show Boxed (W3.setCell ⟨ba,0,none⟩ (.int .i64 ((s.length:Int)+1))) bp _ _ from Blk.other (show Blk W3 bp _ _ from XP.out) (by show bp≠ba;omega) _)
   replace XS:=aA0 (show Boxed (W3.setCell ⟨ba,0,none⟩ (.int .i64 ((s.length:Int)+1))) bs _ _ from Blk.other (show Blk W3 bs _ _ from XS.out) (by show bs≠ba;omega) _)
   replace XN:=aA0 (show Boxed (W3.setCell ⟨ba,0,none⟩ (.int .i64 ((s.length:Int)+1))) bn _ _ from Blk.other (show Blk W3 bn _ _ from XN.out) (by show bn≠ba;omega) _)
   replace XV:=aA0 (show Boxed (W3.setCell ⟨ba,0,none⟩ (.int .i64 ((s.length:Int)+1))) bv _ _ from Blk.other (show Blk W3 bv _ _ from XV.out) (by show bv≠ba;omega) _)
   replace XL:=aA0 (show Boxed (W3.setCell ⟨ba,0,none⟩ (.int .i64 ((s.length:Int)+1))) bl _ _ from Blk.other (show Blk W3 bl _ _ from XL.out) (by show bl≠ba;omega) _)
   replace HAG:Hid (Agr (fun k=>k=ba∨k=bs∨k=bv) w (W3.setCell ⟨ba,0,none⟩ (.int .i64 ((s.length:Int)+1)))):=(HAG.out.trans (Agr.setCell _ _ _ (by show _∨_∨_;simp)))
   generalize W3.setCell ⟨ba,0,none⟩ (.int .i64 ((s.length:Int)+1))=W9 at *;exact ⟨⟨_,rfl⟩,HI.out.next H6.out hN HAG.out XA.out (by rw [HSV.out];exact XS.out) (by rw [HSW.out];exact XV.out),HAG.out.mono HM3.out⟩
  .skip
   have d1:((s.length:Int)==(np:Int))=true:=by simp;omega
   have d1':(s.length==np)=true:=by simp;omega
   have d2:decide (np<=s.length)=true:=by simp;omega
   have d3:decide (s.length<np+l.length)=false:=by simp;omega
   have d3I:decide ((s.length:Int)<(np:Int)+(l.length:Int))=false:=by simp;omega
   have HSV:Hid (aF5 (s++[(.slice A5 t.last.length k5,t)]) np = .slice A5 t.last.length k5):=by have:=HS1.out;rw [if_pos c1] at this;exact this
   have HSW:Hid (aC9 en (s++[(.slice A5 t.last.length k5,t)]) np l=aC9 en s np l):=by have:=HS2.out;rw [if_pos (by omega),List.getElem?_eq_none (by omega)] at this;exact this
   have HC1:=aA0 c1;clear c1 HS1 HS2;obtain ⟨xa0,xa1,xa2⟩:=aA4 XA.out;obtain ⟨xp0,xp1,xp2⟩:=aA4 XP.out;obtain ⟨xs0,xs1,xs2⟩:=aA4 XS.out;obtain ⟨xn0,xn1,xn2⟩:=aA4 XN.out;obtain ⟨xv0,xv1,xv2⟩:=aA4 XV.out;obtain ⟨xl0,xl1,xl2⟩:=aA4 XL.out
   go_upto_region 3 with fail
   clear xa0 xa1 xa2 xp0 xp1 xp2 xs0 xs1 xs2 xn0 xn1 xn2 xv0 xv1 xv2 xl0 xl1 xl2;replace XA:=aA0 (show Boxed (W.setCell ⟨bs,0,none⟩ (.slice A5 t.last.length k5)) ba _ _ from Blk.other (show Blk W ba _ _ from XA.out) (by show ba≠bs;omega) _)
   replace XP:=aA0 (show Boxed (W.setCell ⟨bs,0,none⟩ (.slice A5 t.last.length k5)) bp _ _ from Blk.other (show Blk W bp _ _ from XP.out) (by show bp≠bs;omega) _)
   replace XS:Hid (Boxed (W.setCell ⟨bs,0,none⟩ (.slice A5 t.last.length k5)) bs 30 (.slice A5 t.last.length k5)):=Boxed.set _ (show Boxed W _ _ _ from XS.out)
   replace XN:=aA0 (show Boxed (W.setCell ⟨bs,0,none⟩ (.slice A5 t.last.length k5)) bn _ _ from Blk.other (show Blk W bn _ _ from XN.out) (by show bn≠bs;omega) _)
   replace XV:=aA0 (show Boxed (W.setCell ⟨bs,0,none⟩ (.slice A5 t.last.length k5)) bv _ _ from Blk.other (show Blk W bv _ _ from XV.out) (by show bv≠bs;omega) _)
   replace XL:=aA0 (show Boxed (W.setCell ⟨bs,0,none⟩ (.slice A5 t.last.length k5)) bl _ _ from Blk.other (show Blk W bl _ _ from XL.out) (by show bl≠bs;omega) _)
   replace HAG:Hid (Agr (fun k=>k=ba∨k=bs∨k=bv) w (W.setCell ⟨bs,0,none⟩ (.slice A5 t.last.length k5))):=(HAG.out.trans (Agr.setCell _ _ _ (by show _∨_∨_;simp)))
   generalize W.setCell ⟨bs,0,none⟩ (.slice A5 t.last.length k5)=W2 at *;obtain ⟨xa0,xa1,xa2⟩:=aA4 XA.out;obtain ⟨xp0,xp1,xp2⟩:=aA4 XP.out;obtain ⟨xs0,xs1,xs2⟩:=aA4 XS.out;obtain ⟨xn0,xn1,xn2⟩:=aA4 XN.out;obtain ⟨xv0,xv1,xv2⟩:=aA4 XV.out;obtain ⟨xl0,xl1,xl2⟩:=aA4 XL.out
   go_wp2_with fail
   go_end0
   clear xa0 xa1 xa2 xp0 xp1 xp2 xs0 xs1 xs2 xn0 xn1 xn2 xv0 xv1 xv2 xl0 xl1 xl2;replace XA:Hid (Boxed (W2.setCell ⟨ba,0,none⟩ (.int .i64 ((s.length:Int)+1))) ba 3 (.int .i64 ((s.length:Int)+1))):=Boxed.set _ (show Boxed W2 _ _ _ from XA.out)
   replace XP:=aA0 (show Boxed (W2.setCell ⟨ba,0,none⟩ (.int .i64 ((s.length:Int)+1))) bp _ _ from Blk.other (show Blk W2 bp _ _ from XP.out) (by show bp≠ba;omega) _)
   replace XS:=aA0 (show Boxed (W2.setCell ⟨ba,0,none⟩ (.int .i64 ((s.length:Int)+1))) bs _ _ from Blk.other (show Blk W2 bs _ _ from XS.out) (by show bs≠ba;omega) _)
   replace XN:=aA0 (show Boxed (W2.setCell ⟨ba,0,none⟩ (.int .i64 ((s.length:Int)+1))) bn _ _ from Blk.other (show Blk W2 bn _ _ from XN.out) (by show bn≠ba;omega) _)
   replace XV:=aA0 (show Boxed (W2.setCell ⟨ba,0,none⟩ (.int .i64 ((s.length:Int)+1))) bv _ _ from Blk.other (show Blk W2 bv _ _ from XV.out) (by show bv≠ba;omega) _)
   replace XL:=aA0 (show Boxed (W2.setCell ⟨ba,0,none⟩ (.int .i64 ((s.length:Int)+1))) bl _ _ from Blk.other (show Blk W2 bl _ _ from XL.out) (by show bl≠ba;omega) _)
   replace HAG:Hid (Agr (fun k=>k=ba∨k=bs∨k=bv) w (W2.setCell ⟨ba,0,none⟩ (.int .i64 ((s.length:Int)+1)))):=(HAG.out.trans (Agr.setCell _ _ _ (by show _∨_∨_;simp)))
   generalize W2.setCell ⟨ba,0,none⟩ (.int .i64 ((s.length:Int)+1))=W9 at *;exact ⟨⟨_,rfl⟩,HI.out.next H6.out hN HAG.out XA.out (by rw [HSV.out];exact XS.out) (by rw [HSW.out];exact XV.out),HAG.out.mono HM3.out⟩
 .by_cases c2:np<=s.length
  .obtain ⟨j,hj⟩:∃ j,s.length=np+j:=⟨s.length-np,by omega⟩
   by_cases c3:j<l.length
   .skip
    have d1:((s.length:Int)==(np:Int))=false:=by simp;omega
    have d1':(s.length==np)=false:=by simp;omega
    have d2:decide (np<=s.length)=true:=by simp;omega
    have d3:decide (s.length<np+l.length)=true:=by simp;omega
    have d3I:decide ((s.length:Int)<(np:Int)+(l.length:Int))=true:=by simp;omega
    have HSV:Hid (aF5 (s++[(.slice A5 t.last.length k5,t)]) np=aF5 s np):=by have:=HS1.out;rw [if_neg c1] at this;exact this
    have e7:(s.length:Int)-(np:Int)=(j:Int):=by omega
    have d4:decide (j<l.length)=true:=by simp;omega
    have HSW:Hid (aC9 en (s++[(.slice A5 t.last.length k5,t)]) np l=aZb (aC9 en s np l) E l[j]):=by have:=HS2.out;rw [if_pos (by omega),show s.length-np=j by omega,List.getElem?_eq_getElem c3] at this;exact this
    have hlj:l[j]<4294967296:=hl32 _ (List.getElem_mem c3);have e9:IntKind.i64.wrap (j:Int)=(j:Int):=IntWalk.i64_in _ ⟨by omega,by omega⟩
    have HJ:=aA0 hj;clear hj;have HC1:=aA0 c1;clear c1 HS1 HS2;obtain ⟨xa0,xa1,xa2⟩:=aA4 XA.out;obtain ⟨xp0,xp1,xp2⟩:=aA4 XP.out;obtain ⟨xs0,xs1,xs2⟩:=aA4 XS.out;obtain ⟨xn0,xn1,xn2⟩:=aA4 XN.out;obtain ⟨xv0,xv1,xv2⟩:=aA4 XV.out;obtain ⟨xl0,xl1,xl2⟩:=aA4 XL.out
    go_upto_region 3 with fail
    clear xa0 xa1 xa2 xp0 xp1 xp2 xs0 xs1 xs2 xn0 xn1 xn2 xv0 xv1 xv2 xl0 xl1 xl2;obtain ⟨xa0,xa1,xa2⟩:=aA4 XA.out;obtain ⟨xp0,xp1,xp2⟩:=aA4 XP.out;obtain ⟨xs0,xs1,xs2⟩:=aA4 XS.out;obtain ⟨xn0,xn1,xn2⟩:=aA4 XN.out;obtain ⟨xv0,xv1,xv2⟩:=aA4 XV.out;obtain ⟨xl0,xl1,xl2⟩:=aA4 XL.out
    go_upto_region 4 with fail
    obtain ⟨b,o,e8,hb,hc⟩:=(HI.out.row W HAG.out.size (fun k hk=>HAG.out.block k (by omega) (by omega))).at_ j c3
    subst e8;generalize l[j]=y at *;have q1:bits .or .u32 (((4294967295-E:Nat):Int)) (y:Int)=(((4294967295-E)|||y:Nat):Int):=aKz (by omega) hlj
    have hx2:(4294967295-E)|||y<4294967296:=Nat.or_lt_two_pow (n:=32) (by omega) hlj
    have q2:=aKz hsv hx2;refine aA7.start (fun w'=>w'.cell? ⟨ba,0,none⟩=some (.int .i64 (s.length:Int))/\w'.cell? ⟨bp,0,none⟩=some (.slice Ap np cp)/\w'.cell? ⟨bv,0,none⟩=some (.int .u32 (aC9 en s np l:Int))/\w'.cell? ⟨bl,0,none⟩=some (.slice (some ⟨b,o,none⟩) l.length cl)/\w'.cell? ⟨b,o+j,none⟩=some (.int .u32 (y:Int))/\ba<w'.heap.size/\bp<w'.heap.size/\bv<w'.heap.size/\bl<w'.heap.size/\b<w'.heap.size) 12 (by kernel_rfl) ?_
    have hHeld:W.drew.cell? ⟨ba,0,none⟩=some (.int .i64 (s.length:Int))/\W.drew.cell? ⟨bp,0,none⟩=some (.slice Ap np cp)/\W.drew.cell? ⟨bv,0,none⟩=some (.int .u32 (aC9 en s np l:Int))/\W.drew.cell? ⟨bl,0,none⟩=some (.slice (some ⟨b,o,none⟩) l.length cl)/\W.drew.cell? ⟨b,o+j,none⟩=some (.int .u32 (y:Int))/\ba<W.drew.heap.size/\bp<W.drew.heap.size/\bv<W.drew.heap.size/\bl<W.drew.heap.size/\b<W.drew.heap.size:=⟨xa0,xp0,xv0,xl0,hc,xa2,xp2,xv2,xl2,hb⟩
    (refine aA7.t (v:=?_) 0 26 rfl rfl (by kernel_rfl) (fun _ _ _ h=>h) hHeld (Or.inl ⟨by rfl,?_⟩) ?_;rotate_left 1;focus (intro w' hSw;(try dsimp only at hSw);go_simp;(try with_reducible rfl);done));(refine aA7.t (v:=?_) 1 27 rfl rfl (by kernel_rfl) (fun _ _ _ h=>h) hHeld (Or.inl ⟨by rfl,?_⟩) ?_;rotate_left 1;focus (intro w' hSw;(try dsimp only at hSw);go_simp;(try with_reducible rfl);done));(refine aA7.t (v:=?_) 2 28 rfl rfl (by kernel_rfl) (fun _ _ _ h=>h) hHeld (Or.inl ⟨by rfl,?_⟩) ?_;rotate_left 1;focus (intro w' hSw;(try dsimp only at hSw);go_simp;(try with_reducible rfl);done));(refine aA7.t (v:=?_) 3 29 rfl rfl (by kernel_rfl) (fun _ _ _ h=>h) hHeld (Or.inl ⟨by rfl,?_⟩) ?_;rotate_left 1;focus (intro w' hSw;(try dsimp only at hSw);go_simp;(try with_reducible rfl);done));(refine aA7.t (v:=?_) 4 30 rfl rfl (by kernel_rfl) (fun _ _ _ h=>h) hHeld (Or.inl ⟨by rfl,?_⟩) ?_;rotate_left 1;focus (intro w' hSw;(try dsimp only at hSw);go_simp;(try with_reducible rfl);done));(refine aA7.t (v:=?_) 5 31 rfl rfl (by kernel_rfl) (fun _ _ _ h=>h) hHeld (Or.inl ⟨by rfl,?_⟩) ?_;rotate_left 1;focus (intro w' hSw;(try dsimp only at hSw);go_simp;(try with_reducible rfl);done));(refine aA7.t (v:=?_) 6 32 rfl rfl (by kernel_rfl) (fun _ _ _ h=>h) hHeld (Or.inl ⟨by rfl,?_⟩) ?_;rotate_left 1;focus (intro w' hSw;(try dsimp only at hSw);go_simp;(try with_reducible rfl);done));(refine aA7.t (v:=?_) 7 33 rfl rfl (by kernel_rfl) (fun _ _ _ h=>h) hHeld (Or.inl ⟨by rfl,?_⟩) ?_;rotate_left 1;focus (intro w' hSw;(try dsimp only at hSw);go_simp;(try with_reducible rfl);done));(refine aA7.t (v:=?_) 8 34 rfl rfl (by kernel_rfl) (fun _ _ _ h=>h) hHeld (Or.inl ⟨by rfl,?_⟩) ?_;rotate_left 1;focus (intro w' hSw;(try dsimp only at hSw);go_simp;(try with_reducible rfl);done));(refine aA7.t (v:=?_) 9 35 rfl rfl (by kernel_rfl) (fun _ _ _ h=>h) hHeld (Or.inl ⟨by rfl,?_⟩) ?_;rotate_left 1;focus (intro w' hSw;(try dsimp only at hSw);go_simp;(try with_reducible rfl);done));(refine aA7.t (v:=?_) 10 36 rfl rfl (by kernel_rfl) (fun _ _ _ h=>h) hHeld (Or.inl ⟨by rfl,?_⟩) ?_;rotate_left 1;focus (intro w' hSw;(try dsimp only at hSw);go_simp;(try with_reducible rfl);done));(refine aA7.t (v:=?_) 11 37 rfl rfl (by kernel_rfl) (fun _ _ _ h=>h) hHeld (Or.inl ⟨by rfl,?_⟩) ?_;rotate_left 1;focus (intro w' hSw;(try dsimp only at hSw);go_simp;(try with_reducible rfl);done))
    (refine aA7.one (i:=12) (by kernel_rfl) rfl (fun K hK=>?_));go_simp;refine hK.out _ _ (fun h=>absurd rfl h) ?_;clear hK K;refine aA7.done (by kernel_rfl) ?_ _;(try simp only [Act.put,List.setIfInBounds_toArray,List.set_cons_zero,List.set_cons_succ])
    rw [aUp (by omega),q1,q2]
    clear hHeld hb hc q1 q2 hlj;clear xa0 xa1 xa2 xp0 xp1 xp2 xs0 xs1 xs2 xn0 xn1 xn2 xv0 xv1 xv2 xl0 xl1 xl2;replace XA:=aA0 (show Boxed ((W.setCell ⟨bv,0,none⟩ (.int .u32 ((aC9 en s np l|||(4294967295-E|||y):Nat):Int))).drew) ba _ _ from Blk.other (show Blk W ba _ _ from XA.out) (by show ba≠bv;omega) _)
    replace XP:=aA0 (show Boxed ((W.setCell ⟨bv,0,none⟩ (.int .u32 ((aC9 en s np l|||(4294967295-E|||y):Nat):Int))).drew) bp _ _ from Blk.other (show Blk W bp _ _ from XP.out) (by show bp≠bv;omega) _)
    replace XS:=aA0 (show Boxed ((W.setCell ⟨bv,0,none⟩ (.int .u32 ((aC9 en s np l|||(4294967295-E|||y):Nat):Int))).drew) bs _ _ from Blk.other (show Blk W bs _ _ from XS.out) (by show bs≠bv;omega) _)
    replace XN:=aA0 (show Boxed ((W.setCell ⟨bv,0,none⟩ (.int .u32 ((aC9 en s np l|||(4294967295-E|||y):Nat):Int))).drew) bn _ _ from Blk.other (show Blk W bn _ _ from XN.out) (by show bn≠bv;omega) _)
    replace XV:Hid (Boxed ((W.setCell ⟨bv,0,none⟩ (.int .u32 ((aC9 en s np l|||(4294967295-E|||y):Nat):Int))).drew) bv 34 (.int .u32 ((aC9 en s np l|||(4294967295-E|||y):Nat):Int))):=Boxed.set _ (show Boxed W _ _ _ from XV.out)
    replace XL:=aA0 (show Boxed ((W.setCell ⟨bv,0,none⟩ (.int .u32 ((aC9 en s np l|||(4294967295-E|||y):Nat):Int))).drew) bl _ _ from Blk.other (show Blk W bl _ _ from XL.out) (by show bl≠bv;omega) _)
    replace HAG:Hid (Agr (fun k=>k=ba∨k=bs∨k=bv) w ((W.setCell ⟨bv,0,none⟩ (.int .u32 ((aC9 en s np l|||(4294967295-E|||y):Nat):Int))).drew)):=(HAG.out.trans (Agr.setCell _ _ _ (by show _∨_∨_;simp))).drew
    generalize (W.setCell ⟨bv,0,none⟩ (.int .u32 ((aC9 en s np l|||(4294967295-E|||y):Nat):Int))).drew=W3 at *;obtain ⟨xa0,xa1,xa2⟩:=aA4 XA.out;obtain ⟨xp0,xp1,xp2⟩:=aA4 XP.out;obtain ⟨xs0,xs1,xs2⟩:=aA4 XS.out;obtain ⟨xn0,xn1,xn2⟩:=aA4 XN.out;obtain ⟨xv0,xv1,xv2⟩:=aA4 XV.out;obtain ⟨xl0,xl1,xl2⟩:=aA4 XL.out
    go_wp2_with fail
    go_end0
    clear xa0 xa1 xa2 xp0 xp1 xp2 xs0 xs1 xs2 xn0 xn1 xn2 xv0 xv1 xv2 xl0 xl1 xl2;replace XA:Hid (Boxed (W3.setCell ⟨ba,0,none⟩ (.int .i64 ((s.length:Int)+1))) ba 3 (.int .i64 ((s.length:Int)+1))):=Boxed.set _ (show Boxed W3 _ _ _ from XA.out)
    replace XP:=aA0 (show Boxed (W3.setCell ⟨ba,0,none⟩ (.int .i64 ((s.length:Int)+1))) bp _ _ from Blk.other (show Blk W3 bp _ _ from XP.out) (by show bp≠ba;omega) _)
    replace XS:=aA0 (show Boxed (W3.setCell ⟨ba,0,none⟩ (.int .i64 ((s.length:Int)+1))) bs _ _ from Blk.other (show Blk W3 bs _ _ from XS.out) (by show bs≠ba;omega) _)
    replace XN:=aA0 (show Boxed (W3.setCell ⟨ba,0,none⟩ (.int .i64 ((s.length:Int)+1))) bn _ _ from Blk.other (show Blk W3 bn _ _ from XN.out) (by show bn≠ba;omega) _)
    replace XV:=aA0 (show Boxed (W3.setCell ⟨ba,0,none⟩ (.int .i64 ((s.length:Int)+1))) bv _ _ from Blk.other (show Blk W3 bv _ _ from XV.out) (by show bv≠ba;omega) _)
    replace XL:=aA0 (show Boxed (W3.setCell ⟨ba,0,none⟩ (.int .i64 ((s.length:Int)+1))) bl _ _ from Blk.other (show Blk W3 bl _ _ from XL.out) (by show bl≠ba;omega) _)
    replace HAG:Hid (Agr (fun k=>k=ba∨k=bs∨k=bv) w (W3.setCell ⟨ba,0,none⟩ (.int .i64 ((s.length:Int)+1)))):=(HAG.out.trans (Agr.setCell _ _ _ (by show _∨_∨_;simp)))
    generalize W3.setCell ⟨ba,0,none⟩ (.int .i64 ((s.length:Int)+1))=W9 at *;exact ⟨⟨_,rfl⟩,HI.out.next H6.out hN HAG.out XA.out (by rw [HSV.out];exact XS.out) (by rw [HSW.out];exact XV.out),HAG.out.mono HM3.out⟩
   .skip
    have d1:((s.length:Int)==(np:Int))=false:=by simp;omega
    have d1':(s.length==np)=false:=by simp;omega
    have d2:decide (np<=s.length)=true:=by simp;omega
    have d3:decide (s.length<np+l.length)=false:=by simp;omega
    have d3I:decide ((s.length:Int)<(np:Int)+(l.length:Int))=false:=by simp;omega
    have HSV:Hid (aF5 (s++[(.slice A5 t.last.length k5,t)]) np=aF5 s np):=by have:=HS1.out;rw [if_neg c1] at this;exact this
    have HSW:Hid (aC9 en (s++[(.slice A5 t.last.length k5,t)]) np l=aC9 en s np l):=by have:=HS2.out;rw [if_pos (by omega),List.getElem?_eq_none (by omega)] at this;exact this
    have HC1:=aA0 c1;clear c1 HS1 HS2;obtain ⟨xa0,xa1,xa2⟩:=aA4 XA.out;obtain ⟨xp0,xp1,xp2⟩:=aA4 XP.out;obtain ⟨xs0,xs1,xs2⟩:=aA4 XS.out;obtain ⟨xn0,xn1,xn2⟩:=aA4 XN.out;obtain ⟨xv0,xv1,xv2⟩:=aA4 XV.out;obtain ⟨xl0,xl1,xl2⟩:=aA4 XL.out
    go_upto_region 3 with fail
    clear xa0 xa1 xa2 xp0 xp1 xp2 xs0 xs1 xs2 xn0 xn1 xn2 xv0 xv1 xv2 xl0 xl1 xl2;obtain ⟨xa0,xa1,xa2⟩:=aA4 XA.out;obtain ⟨xp0,xp1,xp2⟩:=aA4 XP.out;obtain ⟨xs0,xs1,xs2⟩:=aA4 XS.out;obtain ⟨xn0,xn1,xn2⟩:=aA4 XN.out;obtain ⟨xv0,xv1,xv2⟩:=aA4 XV.out;obtain ⟨xl0,xl1,xl2⟩:=aA4 XL.out;have HJ:=aA0 hj;clear hj
    go_wp2_with fail
    go_end0
    clear xa0 xa1 xa2 xp0 xp1 xp2 xs0 xs1 xs2 xn0 xn1 xn2 xv0 xv1 xv2 xl0 xl1 xl2;replace XA:Hid (Boxed (W.setCell ⟨ba,0,none⟩ (.int .i64 ((s.length:Int)+1))) ba 3 (.int .i64 ((s.length:Int)+1))):=Boxed.set _ (show Boxed W _ _ _ from XA.out)
    replace XP:=aA0 (show Boxed (W.setCell ⟨ba,0,none⟩ (.int .i64 ((s.length:Int)+1))) bp _ _ from Blk.other (show Blk W bp _ _ from XP.out) (by show bp≠ba;omega) _)
    replace XS:=aA0 (show Boxed (W.setCell ⟨ba,0,none⟩ (.int .i64 ((s.length:Int)+1))) bs _ _ from Blk.other (show Blk W bs _ _ from XS.out) (by show bs≠ba;omega) _)
    replace XN:=aA0 (show Boxed (W.setCell ⟨ba,0,none⟩ (.int .i64 ((s.length:Int)+1))) bn _ _ from Blk.other (show Blk W bn _ _ from XN.out) (by show bn≠ba;omega) _)
    replace XV:=aA0 (show Boxed (W.setCell ⟨ba,0,none⟩ (.int .i64 ((s.length:Int)+1))) bv _ _ from Blk.other (show Blk W bv _ _ from XV.out) (by show bv≠ba;omega) _)
    replace XL:=aA0 (show Boxed (W.setCell ⟨ba,0,none⟩ (.int .i64 ((s.length:Int)+1))) bl _ _ from Blk.other (show Blk W bl _ _ from XL.out) (by show bl≠ba;omega) _)
    replace HAG:Hid (Agr (fun k=>k=ba∨k=bs∨k=bv) w (W.setCell ⟨ba,0,none⟩ (.int .i64 ((s.length:Int)+1)))):=(HAG.out.trans (Agr.setCell _ _ _ (by show _∨_∨_;simp)))
    generalize W.setCell ⟨ba,0,none⟩ (.int .i64 ((s.length:Int)+1))=W9 at *;exact ⟨⟨_,rfl⟩,HI.out.next H6.out hN HAG.out XA.out (by rw [HSV.out];exact XS.out) (by rw [HSW.out];exact XV.out),HAG.out.mono HM3.out⟩
  .skip
   have d1:((s.length:Int)==(np:Int))=false:=by simp;omega
   have d1':(s.length==np)=false:=by simp;omega
   have d2:decide (np<=s.length)=false:=by simp;omega
   have HSV:Hid (aF5 (s++[(.slice A5 t.last.length k5,t)]) np=aF5 s np):=by have:=HS1.out;rw [if_neg c1] at this;exact this
   have HSW:Hid (aC9 en (s++[(.slice A5 t.last.length k5,t)]) np l=aC9 en s np l):=by have:=HS2.out;rw [if_neg (by omega)] at this;exact this
   have HC1:=aA0 c1;clear c1 HS1 HS2;obtain ⟨xa0,xa1,xa2⟩:=aA4 XA.out;obtain ⟨xp0,xp1,xp2⟩:=aA4 XP.out;obtain ⟨xs0,xs1,xs2⟩:=aA4 XS.out;obtain ⟨xn0,xn1,xn2⟩:=aA4 XN.out;obtain ⟨xv0,xv1,xv2⟩:=aA4 XV.out;obtain ⟨xl0,xl1,xl2⟩:=aA4 XL.out
   go_upto_region 3 with fail
   clear xa0 xa1 xa2 xp0 xp1 xp2 xs0 xs1 xs2 xn0 xn1 xn2 xv0 xv1 xv2 xl0 xl1 xl2;obtain ⟨xa0,xa1,xa2⟩:=aA4 XA.out;obtain ⟨xp0,xp1,xp2⟩:=aA4 XP.out;obtain ⟨xs0,xs1,xs2⟩:=aA4 XS.out;obtain ⟨xn0,xn1,xn2⟩:=aA4 XN.out;obtain ⟨xv0,xv1,xv2⟩:=aA4 XV.out;obtain ⟨xl0,xl1,xl2⟩:=aA4 XL.out
   go_wp2_with fail
   go_end0
   clear xa0 xa1 xa2 xp0 xp1 xp2 xs0 xs1 xs2 xn0 xn1 xn2 xv0 xv1 xv2 xl0 xl1 xl2;replace XA:Hid (Boxed (W.setCell ⟨ba,0,none⟩ (.int .i64 ((s.length:Int)+1))) ba 3 (.int .i64 ((s.length:Int)+1))):=Boxed.set _ (show Boxed W _ _ _ from XA.out)
   replace XP:=aA0 (show Boxed (W.setCell ⟨ba,0,none⟩ (.int .i64 ((s.length:Int)+1))) bp _ _ from Blk.other (show Blk W bp _ _ from XP.out) (by show bp≠ba;omega) _)
   replace XS:=aA0 (show Boxed (W.setCell ⟨ba,0,none⟩ (.int .i64 ((s.length:Int)+1))) bs _ _ from Blk.other (show Blk W bs _ _ from XS.out) (by show bs≠ba;omega) _)
   replace XN:=aA0 (show Boxed (W.setCell ⟨ba,0,none⟩ (.int .i64 ((s.length:Int)+1))) bn _ _ from Blk.other (show Blk W bn _ _ from XN.out) (by show bn≠ba;omega) _)
   replace XV:=aA0 (show Boxed (W.setCell ⟨ba,0,none⟩ (.int .i64 ((s.length:Int)+1))) bv _ _ from Blk.other (show Blk W bv _ _ from XV.out) (by show bv≠ba;omega) _)
   replace XL:=aA0 (show Boxed (W.setCell ⟨ba,0,none⟩ (.int .i64 ((s.length:Int)+1))) bl _ _ from Blk.other (show Blk W bl _ _ from XL.out) (by show bl≠ba;omega) _)
   replace HAG:Hid (Agr (fun k=>k=ba∨k=bs∨k=bv) w (W.setCell ⟨ba,0,none⟩ (.int .i64 ((s.length:Int)+1)))):=(HAG.out.trans (Agr.setCell _ _ _ (by show _∨_∨_;simp)))
   generalize W.setCell ⟨ba,0,none⟩ (.int .i64 ((s.length:Int)+1))=W9 at *;exact ⟨⟨_,rfl⟩,HI.out.next H6.out hN HAG.out XA.out (by rw [HSV.out];exact XS.out) (by rw [HSW.out];exact XV.out),HAG.out.mono HM3.out⟩
theorem RepI.grow {M':Nat->Prop} (h:RepI N0 en ba bp bs bn bv bl Ap np cp Al cl l M s w) (hg:∀ k,M k->M' k) (hd:∀ k,M' k->k<w.heap.size):RepI N0 en ba bp bs bn bv bl Ap np cp Al cl l M' s w :=
 { h with inM:=fun k hk=>hg k (h.inM k hk),dom:=hd }
theorem aHe (N0:Nat) (p:Prg) (g:Graph) (h6:Six ba bp bs bn bv bl) (hN:N0<=bp) (hnp:np<=200) (hll:l.length<=200) (hl32:∀ y∈l,y<4294967296) :
  Seer prog N0 77 #[.pointer (some ⟨ba,0,none⟩),.pointer (some ⟨bp,0,none⟩),.pointer (some ⟨bs,0,none⟩),.pointer (some ⟨bn,0,none⟩),.pointer (some ⟨bv,0,none⟩),.pointer (some ⟨bl,0,none⟩)] aIr (fun t=>aAk p g t.last) (fun t=>OkT p g t) (fun M s w=>RepI N0 (fun t=>aAk p g t.last) ba bp bs bn bv bl Ap np cp Al cl l M s w) where
 enter:=fun a b d w=>by kernel_rfl
 dom:=fun M s w h=>h.dom
 keep:=fun M s w W h hz hk=>h.keep hz hk
 grow:=fun M M' s w h hg hd=>h.grow hg hd
 call:=fun M s w v t hn h hC hok=>by
  obtain ⟨A5,k5,rfl,_,_,_⟩:=hC;have hE:=aFs hok.mem;exact (aUd h h6 hN hn hnp hll hl32 A5 k5 t (by show aAk p g t.last<_;omega)).mono fun e w' ⟨h1,h2,h3⟩=>⟨h1,M,h2,h3,fun k hk=>hk,fun k hk => .inl hk⟩
open Go.ChangeShapes Go.WideShapes Go.ChangeAt Go.RowKit Go.Deep
theorem Tryz.cells_u32:prog.cellsOf 34=1:=by kernel_rfl
section
variable {H:Type} {enc:TypeId × Value->H} {w:World} {base:Nat} {spare:Nat->Bool} {held:Bool}
theorem aS3:∀ n cs y b o,(∀ j,j<1->w.cell? ⟨b,o+j,none⟩=cs[j]?)->cs.length=1->DataW.trod enc prog w base spare held n 34 cs=some y->∃ x,aHi w b o x/\x<4294967296:=by
 intro n cs y b o hat hl h
 obtain ⟨x,rfl,_,hwf⟩:=DataW.trod_int underlying34 h;obtain ⟨S,rfl,hS⟩:=aZ6 hwf;refine ⟨S,?_,hS⟩
 have:=hat 0 (by omega)
 simpa [aHi] using this
end
section
variable {H:Type} {enc:TypeId × Value->H} {w:World} {base:Nat} {spare:Nat->Bool} {held:Bool}
theorem aIt {r:Reach} {b0:Nat} {v:Value} {d:DataW H} {p:List MemPlace} (h:DataW.Trod enc prog w base spare held 31 v d p) (hv:Value.okWide prog w r b0 31 v) :
  ∃ A c,∃ l:List Nat,v = .slice A l.length c/\aAa w A l.length l/\(∀ S∈l,S<4294967296)/\l.length<=c/\c<=maxLen:=by
 obtain ⟨a,l,c',rfl⟩:=okWide_slice underlying31 hv;obtain ⟨fuel,h⟩:=h;obtain ⟨A,n,c,xs,hcs,hr,hg,h1,h2⟩:=aJu (E:=aHi) (Good:=fun x=>x<4294967296) underlying31 Tryz.cells_u32 (by decide) aS3 h
 have hn:=hr.1;subst hn;exact ⟨A,c,xs,by simpa [Value.cells] using hcs,hr,hg,h1,h2⟩
end
end Go.Proofs.YtdcjnhoabbdanaaGreatDoor

