/- Merged. -/
import Derived.Test.YtdcjnhoabbdanaaGreatDoorZ26
import Derived.Shelf.Abstract
import Derived.BigQuiet
set_option linter.unusedSimpArgs false
set_option linter.unnecessarySimpa false
set_option linter.unusedVariables false
set_option maxRecDepth 100000
set_option maxHeartbeats 4000000
open Go.Proofs.Tryz

namespace Go.Proofs.YtdcjnhoabbdanaaGreatDoor
open Go.RowKit
attribute [local go_sem] Oper.semAt_some
theorem aCi.cell {E:Nat->Prop} {A B:World} (h:aCi E A B) {k o:Nat} {v:Value} (hc:A.cell? ⟨k,o,none⟩=some v) (hE:E k):B.cell? ⟨k,o,none⟩=some v:=by
 have hk:k<A.heap.size:=by
  rcases Nat.lt_or_ge k A.heap.size with h | h
  .exact h
  .simp [World.cell?,Array.getElem?_eq_none h] at hc
 rw [World.cell?_of_block (h.2 k hk hE)];exact hc
end Go.Proofs.YtdcjnhoabbdanaaGreatDoor

namespace Go.Proofs.YtdcjnhoabbdanaaGreatDoor
open Go.RowKit
theorem aQf:(prog.info? 34).map (fun i=>(i.zero,i.size,i.bytes))=some (some (.int .u32 0),1,4):=by kernel_rfl
def bAc (g:Graph) (w:World) (e:Ending) (w':World):Prop:=∃ A c,e = .returned (.slice A g.ports.length c)/\(∀ W,aAv w.heap.size w' W->aMb W A g)/\g.ports.length<=c/\c<=maxLen/\Bel w w'
theorem bAu {w:World} {base gb c s:Nat} {e:TypeId} {g:Graph} (h:w.ownsRow base e 1 (.slice (some ⟨gb,0,none⟩) g.ports.length c) g.ports.length (aCu g g.ports.length s)):aMb w (some ⟨gb,0,none⟩) g:=by
 refine ⟨by simp [aVg],fun i x hx=>?_⟩
 have hi:i<g.ports.length:=by have:=(List.getElem?_eq_some_iff.1 hx).1;simpa [aVg] using this
 obtain ⟨q,e1,_,q3,q4,_⟩:=aCn h (aRb g s hi);refine ⟨q,0,e1,q3,?_⟩
 have:x=aHq g i:=by
  have:=(List.getElem?_eq_some_iff.1 hx).2;simpa [aVg] using this.symm
 subst this;simpa [aHe] using q4
theorem aTd (v2:Value) (g:Graph) (w:World) (h2:aAn w v2 g) (hg:GOK g) :
  Calls prog 61 #[v2] w (bAc g w):=by
 have hP:∃ A k A2 k2,v2 = .agg #[.slice A g.ids.length k,.slice A2 g.ports.length k2]/\aF3 w A2 g.ports.length g.ports:=by
  obtain ⟨A,k,A2,k2,e,_,_,_,hP,_⟩:=h2;exact ⟨A,k,A2,k2,e,hP⟩
 obtain ⟨A3,k3,A4,k4,rfl,hP⟩:=hP;have HP:=aA0 (fun w' (k:Bel w w')=>aF3.keep hP k);have HG:=aA0 hg;have hn:g.ports.length<=24:=hg.le;obtain ⟨i0,hi0,hz0,hz1,hz2⟩:=info_parts aQf;have HW:=Bel.refl (w.alloc (.cells #[.slice A3 g.ids.length k3,.slice A4 g.ports.length k4] 29));clear h2 hP hg;go_enter func61,ntmps61
 go_wp2_with (at_make;refine aFv _ rfl 66 (.tmp 10) (.tmp 10) rfl (w.heap.size+1) 34 i0 (.int .u32 0) 1 underlying66 hi0 hz0 hz1 .i64 .i64 g.ports.length rfl rfl (by rw [hz2];omega) (by unfold maxLen;omega) (by simp) ?_;intro gb w1 hown hb;have HW:=hb;rw [aK3 _ rfl] at hown;have HO:=aA0 hown;clear hown hb;have q1:=aA9 HW 1 (v := .slice A4 g.ports.length k4) rfl;have q2:=aAx HW)
 have hgb1:=(aBf HO.out).1
 have HO0:Hid (w1.ownsRow (w.heap.size+1) 34 1 (.slice (some ⟨gb,0,none⟩) g.ports.length g.ports.length) g.ports.length (aCu g 0 0)):=by
  show World.ownsRow _ _ _ _ _ _ _
  rw [aRd];exact HO.out
 clear HO q1 q2
 go_loopg [4,5,7,15] g.ports.length (fun m _x _y _z z wr=>∃ v:Nat,v<=g.ports.length/\m=g.ports.length-v/\z = .int .i64 v/\Hid (wr.ownsRow (w.heap.size+1) 34 1 (.slice (some ⟨gb,0,none⟩) g.ports.length g.ports.length) g.ports.length (aCu g v 0))/\Bel (w.alloc (.cells #[.slice A3 g.ids.length k3,.slice A4 g.ports.length k4] 29)) wr)
 case atStart=>exact ⟨0,by omega,rfl,rfl,HO0,HW⟩
 case round =>
  clear HO0 HW;obtain ⟨wo,rfl⟩:∃ wo:World,wo=wr:=⟨_,rfl⟩;obtain ⟨v,hv,rfl,rfl,HO,HW⟩:=hrel
  by_cases hlt:v<g.ports.length
  .have hd0:decide (v<g.ports.length)=true:=by simpa using hlt
   obtain ⟨b,o,R,rc,rfl,hb,hrow,hL,_,_⟩:=(HP.out _ (aA4 HW)).at_ v hlt
   have HL:=aA0 (fun w' (k:Bel w w')=>aGj.keep (by
    obtain ⟨b',o',R',rc',e1,hb',hrow',hL',_,_⟩:=(HP.out _ (Bel.refl w)).at_ v hlt;have hb0:=aA4 HW;rw [<- hb0.cell hb'] at hrow';obtain ⟨rfl,rfl⟩:b=b'/\o=o':=by simpa using e1
    rw [hrow] at hrow';injection hrow' with hrow'
    injection hrow' with e2 _ _
    subst e2
    exact hL') k)
   clear hL
   go_wp2_with fail
   have HO0:=aA0 HO.out;have hll:=aCh hlt (HG.out.links v hlt)
   go_loopg [7,22] g.ports[v].length (fun m _x z ws=>∃ i:Nat,i<=g.ports[v].length/\m=g.ports[v].length-i/\z = .int .i64 i/\Hid (ws.ownsRow (w.heap.size+1) 34 1 (.slice (some ⟨gb,0,none⟩) g.ports.length g.ports.length) g.ports.length (aCu g v (aSd (g.ports[v].take i))))/\Bel (w.alloc (.cells #[.slice A3 g.ids.length k3,.slice (some ⟨b,o,none⟩) g.ports.length k4] 29)) ws)
   case atStart=>exact ⟨0,by omega,rfl,rfl,HO0,HW⟩
   case round =>
    clear HO HO0 HW hrow hb;obtain ⟨i,hi,rfl,rfl,HO,HW⟩:=hrel
    by_cases hlt2:i<g.ports[v].length
    .have hd2:decide (i<g.ports[v].length)=true:=by simpa using hlt2
     obtain ⟨b1,o1,rfl,hb1,c0,c1⟩:=(HL.out _ (aA4 HW)).at_ i hlt2;obtain ⟨t0,t1⟩:=aKw HG.out hlt (List.getElem_mem hlt2);have HTK:=aA0 (aXh hlt2)
     have hsl:aSd (g.ports[v].take i)<4294967296:=aXf fun l hl=>by
      have:=aKw HG.out hlt (List.mem_of_mem_take hl);omega
     obtain ⟨u,hu⟩:=Int.eq_ofNat_of_zero_le t0;rw [hu,Int.toNat_natCast] at HTK;rw [hu] at c0 t1;have hu32:u<32:=by omega
     have hu32':decide (u<32)=true:=by simpa using hu32
     obtain ⟨ql,q3,q4,q5,q6,q7⟩:=aCn HO.out (aVf g hlt (aSd (g.ports[v].take i)));obtain rfl:gb=ql:=by simpa using q3
     have hbs:=aFz hsl hu32;rw [<- HTK.out] at hbs;clear t0 hu q3
     go_wp2_with fail
     have hsz:=HW.size;refine aA6.start (fun w'=>w'.cell? ⟨gb,v,none⟩=some (.int .u32 (aSd (g.ports[v].take i):Int))/\w'.frozen? ⟨gb,v,none⟩=false/\w'.cell? ⟨wr.heap.size,0,none⟩=some (.int .i64 (u:Int))/\gb<w'.heap.size/\wr.heap.size<w'.heap.size) 9 (by kernel_rfl) ?_
     have hHeld:(fun w':World=>w'.cell? ⟨gb,v,none⟩=some (.int .u32 (aSd (g.ports[v].take i):Int))/\w'.frozen? ⟨gb,v,none⟩=false/\w'.cell? ⟨wr.heap.size,0,none⟩=some (.int .i64 (u:Int))/\gb<w'.heap.size/\wr.heap.size<w'.heap.size) (wr.alloc (.cells #[.int .i64 (u:Int),.int .i64 (g.ports[v][i]).weight] 102)).drew:=by
      refine ⟨?_,?_,?_,?_,?_⟩ <;> go_simp <;> try omega
     (refine aA6.t (v:=?_) 0 26 rfl rfl (by kernel_rfl) (fun _ _ _ h=>h) hHeld (Or.inl ⟨by rfl,?_⟩) ?_;rotate_left 1;focus (intro w' hSw;(try dsimp only at hSw);go_simp;(try with_reducible rfl);done));(refine aA6.t (v:=?_) 1 27 rfl rfl (by kernel_rfl) (fun _ _ _ h=>h) hHeld (Or.inl ⟨by rfl,?_⟩) ?_;rotate_left 1;focus (intro w' hSw;(try dsimp only at hSw);go_simp;(try with_reducible rfl);done));(refine aA6.t (v:=?_) 2 28 rfl rfl (by kernel_rfl) (fun _ _ _ h=>h) hHeld (Or.inl ⟨by rfl,?_⟩) ?_;rotate_left 1;focus (intro w' hSw;(try dsimp only at hSw);go_simp;(try with_reducible rfl);done));(refine aA6.t (v:=?_) 3 29 rfl rfl (by kernel_rfl) (fun _ _ _ h=>h) hHeld (Or.inl ⟨by rfl,?_⟩) ?_;rotate_left 1;focus (intro w' hSw;(try dsimp only at hSw);go_simp;(try with_reducible rfl);done));(refine aA6.t (v:=?_) 4 30 rfl rfl (by kernel_rfl) (fun _ _ _ h=>h) hHeld (Or.inl ⟨by rfl,?_⟩) ?_;rotate_left 1;focus (intro w' hSw;(try dsimp only at hSw);go_simp;(try with_reducible rfl);done));(refine aA6.t (v:=?_) 5 31 rfl rfl (by kernel_rfl) (fun _ _ _ h=>h) hHeld (Or.inl ⟨by rfl,?_⟩) ?_;rotate_left 1;focus (intro w' hSw;(try dsimp only at hSw);go_simp;(try with_reducible rfl);done));(refine aA6.t (v:=?_) 6 32 rfl rfl (by kernel_rfl) (fun _ _ _ h=>h) hHeld (Or.inl ⟨by rfl,?_⟩) ?_;rotate_left 1;focus (intro w' hSw;(try dsimp only at hSw);go_simp;(try with_reducible rfl);done));(refine aA6.t (v:=?_) 7 33 rfl rfl (by kernel_rfl) (fun _ _ _ h=>h) hHeld (Or.inl ⟨by rfl,?_⟩) ?_;rotate_left 1;focus (intro w' hSw;(try dsimp only at hSw);go_simp;(try with_reducible rfl);done));(refine aA6.t (v:=?_) 8 34 rfl rfl (by kernel_rfl) (fun _ _ _ h=>h) hHeld (Or.inl ⟨by rfl,?_⟩) ?_;rotate_left 1;focus (intro w' hSw;(try dsimp only at hSw);go_simp;(try with_reducible rfl);done))
     (refine aA6.one (i:=9) (by kernel_rfl) rfl (fun K hK=>?_));go_simp;refine hK.out _ _ (fun h=>absurd rfl h) ?_;clear hK K;refine aA6.done (by kernel_rfl) ?_ _;(try simp only [Act.put,List.setIfInBounds_toArray,List.set_cons_zero,List.set_cons_succ])
     go_wp2_with fail
     go_roundg (g.ports[v].length-(i+1))
     case rel =>
      refine ⟨i+1,by omega,rfl,by go_num,?_,?_⟩
      .have:=(((HO.out.stored v (.int .u32 (aSd (g.ports[v].take (i+1)):Int))).1).alloc (.cells #[.int .i64 (u:Int),.int .i64 (g.ports[v][i]).weight] 102)).drew
       rw [aTc g hlt] at this;exact this
      .exact ((HW.setCell (by simp;omega) _).alloc _).drew
     case measure=>omega
    .have hd2:decide (i<g.ports[v].length)=false:=by simpa using hlt2
     obtain rfl:i=g.ports[v].length:=by omega
     go_wp2_with fail
     go_roundg (g.ports.length-(v+1))
     case rel =>
      refine ⟨v+1,by omega,rfl,by go_num,?_,HW⟩
      have:=HO.out;rw [List.take_of_length_le (Nat.le_refl _),show aSd g.ports[v]=aHq g v by unfold aHq;rw [aAa hlt],aRc] at this
      exact this
     case measure=>omega
  .have hd0:decide (v<g.ports.length)=false:=by simpa using hlt
   obtain rfl:v=g.ports.length:=by omega
   go_wp2_with fail
   go_ret;exact ⟨_,_,rfl,fun W hW=>bAu (aUa HO.out hW (by omega)),Nat.le_refl _,by unfold maxLen;omega,aA4 HW⟩
theorem aFh (kind:Int) (w:World) :
  Calls prog 59 #[.int .i64 kind] w fun e w'=>e = .returned (.bool (aFl kind))/\w=w':=by
 have HF:Hid (aFl kind=(decide (1<=kind)&&decide (kind<=4))):=rfl
 by_cases h0:1<=kind
 .have d0:decide (1<=kind)=true:=by simpa using h0
  rw [d0] at HF
  by_cases h1:kind<=4
  .have d1:decide (kind<=4)=true:=by simpa using h1
   rw [d1] at HF;go_enter func59,ntmps59
   go_wp2_with fail
   go_ret;exact ⟨aA2 (by rw [HF.out];rfl),rfl⟩
  .have d1:decide (kind<=4)=false:=by simpa using h1
   rw [d1] at HF;go_enter func59,ntmps59
   go_wp2_with fail
   go_ret;exact ⟨aA2 (by rw [HF.out];rfl),rfl⟩
 .have d0:decide (1<=kind)=false:=by simpa using h0
  rw [d0] at HF;go_enter func59,ntmps59
  go_wp2_with fail
  go_ret;exact ⟨aA2 (by rw [HF.out];rfl),rfl⟩
theorem aNe (A:Option Addr) (c:Nat) (g:Graph) (kind:Int) (E S:Nat) (w:World) (hN:aMb w A g) (hT:aDg w) (_:E<4294967296) (hS:S<4294967296) (hw:∀ v,E.testBit v=true->v<g.ports.length) (hg:GOK g) :
  Calls prog 87 #[.slice A g.ports.length c,.int .i64 kind,.int .u32 (E:Int),.int .u32 (S:Int)] w fun e w'=>e = .returned (.bool (aB9 g kind E S))/\Bel w w':=by
 have HF:Hid (aB9 g kind E S=if S=0 then false else if aBn S E=false then false else if kind=1 then (S&&&(S-1))==0 else if kind=2 then aG2 g S else if kind=4 then S==E else true):=rfl
 have HN:=aA0 hN;have HT:=aA0 hT;have HS:=aA0 hS;have HG:=aA0 hg;have HB:=Bel.refl w;clear hN hT hg
 by_cases h0:S=0
 .rw [if_pos h0] at HF
  have d0:((S:Int)==0)=true:=by simpa using h0
  clear h0;go_enter func87,ntmps87
  go_wp2_with fail
  go_ret;exact ⟨aA2 HF.out.symm,HB⟩
 rw [if_neg h0] at HF;have d0:((S:Int)==0)=false:=by simpa using h0
 have HD:=aIj (T:=E) hS;have hbn:=aEc S E;cases hwi:aBn S E with
 | false =>
  rw [hwi,if_pos rfl] at HF;rw [hwi] at HD;have hz:((aF0 S E:Int) != 0)=true:=by simp at HD ⊢;omega
  have hz':(aF0 S E != 0)=true:=by simp at HD ⊢;omega
  clear h0 hwi HD;go_enter func87,ntmps87
  go_wp2_with fail
  go_ret;exact ⟨aA2 HF.out.symm,HB⟩
 | true =>
  rw [hwi,if_neg (by decide)] at HF
  rw [hwi] at HD;have hz:((aF0 S E:Int) != 0)=false:=by simp at HD ⊢;omega
  have hz':(aF0 S E != 0)=false:=by simp at HD ⊢;omega
  have HWS:Hid (∀ v,S.testBit v=true->v<g.ports.length):=fun v hv=>hw v (aBm.1 hwi v (aJv hS hv) hv);clear hwi HD
  by_cases k1:kind=1
  .rw [if_pos k1] at HF
   subst k1;have HS1:=aA0 (show ((S:Int)-1) % 4294967296=((S-1:Nat):Int) by omega)
   have HB1:=aA0 (aCs (S:=S) (T:=S-1) hS (by omega))
   clear h0;go_enter func87,ntmps87
   go_wp2_with fail
   go_ret;refine ⟨aA2 ?_,HB⟩
   rw [HF.out,Bool.eq_iff_iff];simp
   rw [HS1.out,HB1.out];omega
  rw [if_neg k1] at HF;have k1':(kind==1)=false:=by simpa using k1
  by_cases k2:kind=2
  .rw [if_pos k2] at HF
   subst k2;clear h0 k1;go_enter func87,ntmps87
   go_wp2_with (go_at_call 109;refine (aX4 A c g S _ HN.out HT.out HS.out HWS.out HG.out).mono ?_;rintro e w' ⟨rfl,hb⟩)
   go_ret;exact ⟨aA2 HF.out.symm,hb⟩
  rw [if_neg k2] at HF;have k2':(kind==2)=false:=by simpa using k2
  by_cases k4:kind=4
  .rw [if_pos k4] at HF
   subst k4;clear h0 k1 k2;go_enter func87,ntmps87
   go_wp2_with fail
   go_ret;refine ⟨aA2 ?_,HB⟩
   rw [HF.out,Bool.eq_iff_iff];simp
   try omega
  rw [if_neg k4] at HF;have k4':(kind==4)=false:=by simpa using k4
  clear h0 k1 k2 k4;go_enter func87,ntmps87
  go_wp2_with fail
  go_ret;exact ⟨aA2 HF.out.symm,HB⟩
theorem aZn {E:Nat->Prop} {A B:World} {base e size n m c g:Nat} {xs:List Value} (h:A.ownsRow base e size (.slice (some ⟨g,0,none⟩) m c) n xs) (hA:Agr E A B) (hg:¬ E g):B.ownsRow base e size (.slice (some ⟨g,0,none⟩) m c) n xs:=by
 refine ⟨h.1,?_⟩
 rcases h.2 with ⟨hv,_⟩ | ⟨g',cap,cur,hv,hb,hg',hr⟩
 .cases hv
 .injection hv with hA' hn hc
  injection hA' with hA'
  injection hA' with hA'
  subst hA';exact .inr ⟨g,cap,cur,by rw [hn,hc],hb,(hA.block g (lt_of_block hg') hg).trans hg',hr⟩
theorem Agr.drew {E:Nat->Prop} {A B:World} (h:Agr E A B):Agr E A B.drew:=⟨h.os,h.tape,h.output,h.size,h.block⟩
theorem Agr.step {E' E:Nat->Prop} {A B C:World} (h:Agr E' A B) (k:Agr E B C) (hE:∀ q,q<A.heap.size->E q->E' q):Agr E' A C :=
 ⟨k.os.trans h.os,k.tape.trans h.tape,k.output.trans h.output,Nat.le_trans h.size k.size,fun i hi hn=>(k.block i (Nat.lt_of_lt_of_le hi h.size) (fun e=>hn (hE i hi e))).trans (h.block i hi hn)⟩
theorem bBe {w:World} {base e size n:Nat} {v:Value} {xs:List Value} (h:w.ownsRow base e size v n xs):∀ k,v.ownBlock=some k->base<=k:=by
 intro k hk
 rcases h.2 with ⟨rfl,_⟩ | ⟨g,cap,cur,rfl,hb,_⟩
 .simp [Value.ownBlock] at hk
 .simp only [Value.ownBlock] at hk
  injection hk with hk
  omega
theorem aCi.grown {E:Nat->Prop} {A B:World} {row:Option Nat} (h:A.grownBy B row) (hE:∀ k,E k->some k≠row):aCi E A B:=⟨h.size,fun k hk he=>h.block k hk (hE k he)⟩
theorem aCi.alloc (E:Nat->Prop) (A:World) (o:Obj):aCi E A (A.alloc o):=aCi.of_bel ((Bel.refl A).alloc o)
theorem aCi.drew {E:Nat->Prop} {A B:World} (h:aCi E A B):aCi E A B.drew:=h
theorem aDi {w:World} {base e size n:Nat} {v:Value} {xs:List Value} (h:w.ownsRow base e size v n xs) {a:Addr} (ha:a.block<base) (u:Value):(w.setCell a u).ownsRow base e size v n xs:=by
 refine ⟨h.1,?_⟩
 rcases h.2 with hn | ⟨g,cap,cur,hv,hb,hg,hr⟩
 .exact .inl hn
 .exact .inr ⟨g,cap,cur,hv,hb,(Below.heap_setCell _ _ _ _ (by omega)).trans hg,hr⟩
def aBk (S:Nat):Value := .int .u32 (S:Int)
theorem aQ3 (x:Int):∀ u∈(#[Value.int .u32 x]:Array Value).toList,u.oneCell'=true:=by intro u hu;simp at hu;subst hu;rfl
theorem aRm {w:World} {base e c:Nat} {A:Option Addr} {xs:List Nat} (h:w.ownsRow base e 1 (.slice A xs.length c) xs.length (xs.map aBk)):aAd w A xs.length xs:=by
 refine ⟨rfl,fun i x hx=>?_⟩
 obtain ⟨q,e1,_,q3,q4,_⟩:=aCn h (j:=i) (u:=aBk x) (by rw [List.getElem?_map,hx];rfl)
 exact ⟨q,0,e1,q3,by simpa [aHe,aBk] using q4⟩
attribute [local go_sem] Oper.semAt_some
end Go.Proofs.YtdcjnhoabbdanaaGreatDoor

namespace Go.Proofs.YtdcjnhoabbdanaaGreatDoor
open Go.RowKit
def exP:Prg:=⟨⟨#[97]⟩,[⟨⟨#[98]⟩,2,0,0,0,0⟩],[⟨⟨#[114]⟩,[⟨5,0⟩],[⟨0,[⟨3,0⟩]⟩]⟩]⟩
def exG:Graph:=⟨[0,1],[[⟨1,1⟩],[⟨0,1⟩]]⟩
theorem aAf.one {α:Type} {size:Nat} {E:World->Nat->Nat->α->Prop} {w:World} {b:Nat} {x:α} (hb:b<w.heap.size) (h:E w b 0 x):aAf size E w (some ⟨b,0,none⟩) 1 [x] :=
 ⟨rfl,fun i y hy=>by
  match i,hy with
  | 0,hy =>
   obtain rfl:x=y:=by simpa using hy
   exact ⟨b,0,rfl,hb,by rw [Nat.zero_mul];exact h⟩
  | i+1,hy=>simp at hy⟩
theorem aAf.two {α:Type} {size:Nat} {E:World->Nat->Nat->α->Prop} {w:World} {b:Nat} {x y:α} (hb:b<w.heap.size) (h:E w b 0 x) (h2:E w b size y):aAf size E w (some ⟨b,0,none⟩) 2 [x,y] :=
 ⟨rfl,fun i z hz=>by
  match i,hz with
  | 0,hz =>
   obtain rfl:x=z:=by simpa using hz
   exact ⟨b,0,rfl,hb,by rw [Nat.zero_mul];exact h⟩
  | 1,hz =>
   obtain rfl:y=z:=by simpa using hz
   exact ⟨b,0,rfl,hb,by rw [Nat.one_mul,Nat.zero_add];exact h2⟩
  | i+2,hz=>simp at hz⟩
def RetEx (w:World) (e:Ending) (w':World):Prop:=∃ vp vg,e = .returned (.tuple #[vp,vg])/\aEm w' vp exP/\aAn w' vg exG/\Bel w w'
theorem aPl (w:World):Calls prog 34 #[] w (RetEx w):=by
 go_enter func34,ntmps34;go_wp2;refine bodyPost_ret (v := .tuple #[.agg #[.string ⟨#[97]⟩,.slice (some ⟨w.heap.size+1+1+1,0,none⟩) 1 1,.slice (some ⟨w.heap.size+1+1+1+1+1+1,0,none⟩) 1 1],.agg #[.slice (some ⟨w.heap.size+1+1+1+1+1+1+1+1,0,none⟩) 2 2,.slice (some ⟨w.heap.size+1+1+1+1+1+1+1+1+1+1+1,0,none⟩) 2 2]]) (by simp [results,Tryz.results34,go_sem]) rfl ⟨_,_,rfl,?_,?_,?_⟩
 .refine ⟨_,_,_,_,rfl,aAf.one (by simp) ⟨?_,?_,?_,?_,?_,?_⟩,by decide,by decide,aAf.one (by simp) ⟨?_,⟨_,1,?_,aAf.one (b:=w.heap.size+1+1) (by simp) ⟨?_,?_⟩,by decide,by decide⟩,⟨_,1,?_,aAf.one (b:=w.heap.size+1+1+1+1+1) (by simp) ⟨?_,_,1,?_,aAf.one (b:=w.heap.size+1+1+1+1) (by simp) ⟨?_,?_⟩,by decide,by decide⟩,by decide,by decide⟩⟩,by decide,by decide⟩
  all_goals ((try unfold aHn);go_simp)
 .refine ⟨_,_,_,_,rfl,aAf.two (by simp) ?_ ?_,by decide,by decide,aAf.two (by simp) ⟨_,1,?_,aAf.one (b:=w.heap.size+1+1+1+1+1+1+1+1+1) (by simp) ⟨?_,?_⟩,by decide,by decide⟩ ⟨_,1,?_,aAf.one (b:=w.heap.size+1+1+1+1+1+1+1+1+1+1) (by simp) ⟨?_,?_⟩,by decide,by decide⟩,by decide,by decide⟩
  all_goals ((try unfold aHn);go_simp)
 .repeat' refine Bel.alloc ?_ _
  exact Bel.refl w
end Go.Proofs.YtdcjnhoabbdanaaGreatDoor

