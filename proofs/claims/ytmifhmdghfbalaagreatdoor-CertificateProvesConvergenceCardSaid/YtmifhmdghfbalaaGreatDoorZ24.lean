/- Merged. -/
import Derived.Test.YtmifhmdghfbalaaGreatDoorZ22
set_option linter.unusedSimpArgs false
set_option linter.unnecessarySimpa false
set_option linter.unusedVariables false
set_option maxRecDepth 100000
set_option maxHeartbeats 4000000
open Go.Proofs.Tryz

namespace Go.Proofs.YtmifhmdghfbalaaGreatDoor
open Go.RowKit
theorem aJz:(prog.info? 34).map (fun i=>(i.zero,i.size,i.bytes))=some (some (.int .u32 0),1,4):=by kernel_rfl
def bM8 (g:Graph) (w:World) (e:Ending) (w':World):Prop:=∃ A c,e = .returned (.slice A g.ports.length c)/\bB7 w' A g/\g.ports.length<=c/\c<=maxLen/\Bel w w'
def bKd (g:Graph) (w:World) (e:Ending) (w':World):Prop:=∃ A c,e = .returned (.slice A g.ports.length c)/\(∀ W,aFd w.heap.size w' W->bB7 W A g)/\g.ports.length<=c/\c<=maxLen/\Bel w w'
theorem bL7 {w:World} {base gb c s:Nat} {e:TypeId} {g:Graph} (h:w.ownsRow base e 1 (.slice (some ⟨gb,0,none⟩) g.ports.length c) g.ports.length (aDn g g.ports.length s)):bB7 w (some ⟨gb,0,none⟩) g:=by
 refine ⟨by simp [bDr],fun i x hx=>?_⟩
 have hi:i<g.ports.length:=by have:=(List.getElem?_eq_some_iff.1 hx).1;simpa [bDr] using this
 obtain ⟨q,e1,_,q3,q4,_⟩:=aBv h (aY1 g s hi);refine ⟨q,0,e1,q3,?_⟩
 have:x=aY0 g i:=by
  have:=(List.getElem?_eq_some_iff.1 hx).2;simpa [bDr] using this.symm
 subst this;simpa [aOx] using q4
theorem bAj (v2:Value) (g:Graph) (w:World) (h2:aAl w v2 g) (hg:GOK g) :
  Calls prog 116 #[v2] w (bKd g w):=by
 have hP:∃ A k A2 k2,v2 = .agg #[.slice A g.ids.length k,.slice A2 g.ports.length k2]/\aH0 w A2 g.ports.length g.ports:=by
  obtain ⟨A,k,A2,k2,e,_,_,_,hP,_⟩:=h2;exact ⟨A,k,A2,k2,e,hP⟩
 obtain ⟨A3,k3,A4,k4,rfl,hP⟩:=hP;have HP:=aA1 (fun w' (k:Bel w w')=>aH0.keep hP k);have HG:=aA1 hg;have hn:g.ports.length<=24:=hg.le;obtain ⟨i0,hi0,hz0,hz1,hz2⟩:=info_parts aJz;have HW:=Bel.refl (w.alloc (.cells #[.slice A3 g.ids.length k3,.slice A4 g.ports.length k4] 29));clear h2 hP hg;go_enter func116,ntmps116
 go_wp2_with (at_make;refine aCu _ rfl 93 (.tmp 10) (.tmp 10) rfl (w.heap.size+1) 34 i0 (.int .u32 0) 1 underlying93 hi0 hz0 hz1 .i64 .i64 g.ports.length rfl rfl (by rw [hz2];omega) (by unfold maxLen;omega) (by simp) ?_;intro gb w1 hown hb;have HW:=hb;rw [aEj _ rfl] at hown;have HO:=aA1 hown;clear hown hb;have q1:=aA9 HW 1 (v := .slice A4 g.ports.length k4) rfl;have q2:=aAz HW)
 have hgb1:=(aAf HO.out).1
 have HO0:Hid (w1.ownsRow (w.heap.size+1) 34 1 (.slice (some ⟨gb,0,none⟩) g.ports.length g.ports.length) g.ports.length (aDn g 0 0)):=by
  show World.ownsRow _ _ _ _ _ _ _
  rw [aY3];exact HO.out
 clear HO q1 q2
 go_loopg [4,5,7,15] g.ports.length (fun m _x _y _z z wr=>∃ v:Nat,v<=g.ports.length/\m=g.ports.length-v/\z = .int .i64 v/\Hid (wr.ownsRow (w.heap.size+1) 34 1 (.slice (some ⟨gb,0,none⟩) g.ports.length g.ports.length) g.ports.length (aDn g v 0))/\Bel (w.alloc (.cells #[.slice A3 g.ids.length k3,.slice A4 g.ports.length k4] 29)) wr)
 case atStart=>exact ⟨0,by omega,rfl,rfl,HO0,HW⟩
 case round =>
  clear HO0 HW;obtain ⟨wo,rfl⟩:∃ wo:World,wo=wr:=⟨_,rfl⟩;obtain ⟨v,hv,rfl,rfl,HO,HW⟩:=hrel
  by_cases hlt:v<g.ports.length
  .have hd0:decide (v<g.ports.length)=true:=by simpa using hlt
   obtain ⟨b,o,R,rc,rfl,hb,hrow,hL,_,_⟩:=(HP.out _ (aA3 HW)).at_ v hlt
   have HL:=aA1 (fun w' (k:Bel w w')=>aIt.keep (by
    obtain ⟨b',o',R',rc',e1,hb',hrow',hL',_,_⟩:=(HP.out _ (Bel.refl w)).at_ v hlt;have hb0:=aA3 HW;rw [<- hb0.cell hb'] at hrow';obtain ⟨rfl,rfl⟩:b=b'/\o=o':=by simpa using e1
    rw [hrow] at hrow';injection hrow' with hrow'
    injection hrow' with e2 _ _
    subst e2
    exact hL') k)
   clear hL
   go_wp2_with fail
   have HO0:=aA1 HO.out;have hll:=aD7 hlt (HG.out.links v hlt)
   go_loopg [7,22] g.ports[v].length (fun m _x z ws=>∃ i:Nat,i<=g.ports[v].length/\m=g.ports[v].length-i/\z = .int .i64 i/\Hid (ws.ownsRow (w.heap.size+1) 34 1 (.slice (some ⟨gb,0,none⟩) g.ports.length g.ports.length) g.ports.length (aDn g v (aZb (g.ports[v].take i))))/\Bel (w.alloc (.cells #[.slice A3 g.ids.length k3,.slice (some ⟨b,o,none⟩) g.ports.length k4] 29)) ws)
   case atStart=>exact ⟨0,by omega,rfl,rfl,HO0,HW⟩
   case round =>
    clear HO HO0 HW hrow hb;obtain ⟨i,hi,rfl,rfl,HO,HW⟩:=hrel
    by_cases hlt2:i<g.ports[v].length
    .have hd2:decide (i<g.ports[v].length)=true:=by simpa using hlt2
     obtain ⟨b1,o1,rfl,hb1,c0,c1⟩:=(HL.out _ (aA3 HW)).at_ i hlt2;obtain ⟨t0,t1⟩:=aRg HG.out hlt (List.getElem_mem hlt2);have HTK:=aA1 (bGh hlt2)
     have hsl:aZb (g.ports[v].take i)<4294967296:=bGf fun l hl=>by
      have:=aRg HG.out hlt (List.mem_of_mem_take hl);omega
     obtain ⟨u,hu⟩:=Int.eq_ofNat_of_zero_le t0;rw [hu,Int.toNat_natCast] at HTK;rw [hu] at c0 t1;have hu32:u<32:=by omega
     have hu32':decide (u<32)=true:=by simpa using hu32
     obtain ⟨ql,q3,q4,q5,q6,q7⟩:=aBv HO.out (bDq g hlt (aZb (g.ports[v].take i)));obtain rfl:gb=ql:=by simpa using q3
     have hbs:=aN6 hsl hu32;rw [<- HTK.out] at hbs;clear t0 hu q3
     go_wp2_with fail
     have hsz:=HW.size;refine aAd.start (fun w'=>w'.cell? ⟨gb,v,none⟩=some (.int .u32 (aZb (g.ports[v].take i):Int))/\w'.frozen? ⟨gb,v,none⟩=false/\w'.cell? ⟨wr.heap.size,0,none⟩=some (.int .i64 (u:Int))/\gb<w'.heap.size/\wr.heap.size<w'.heap.size) 9 (by kernel_rfl) ?_
     have hHeld:(fun w':World=>w'.cell? ⟨gb,v,none⟩=some (.int .u32 (aZb (g.ports[v].take i):Int))/\w'.frozen? ⟨gb,v,none⟩=false/\w'.cell? ⟨wr.heap.size,0,none⟩=some (.int .i64 (u:Int))/\gb<w'.heap.size/\wr.heap.size<w'.heap.size) (wr.alloc (.cells #[.int .i64 (u:Int),.int .i64 (g.ports[v][i]).weight] 161)).drew:=by
      refine ⟨?_,?_,?_,?_,?_⟩ <;> go_simp <;> try omega
     (refine aAd.t (v:=?_) 0 26 rfl rfl (by kernel_rfl) (fun _ _ _ h=>h) hHeld (Or.inl ⟨by rfl,?_⟩) ?_;rotate_left 1;focus (intro w' hSw;(try dsimp only at hSw);go_simp;(try with_reducible rfl);done));(refine aAd.t (v:=?_) 1 27 rfl rfl (by kernel_rfl) (fun _ _ _ h=>h) hHeld (Or.inl ⟨by rfl,?_⟩) ?_;rotate_left 1;focus (intro w' hSw;(try dsimp only at hSw);go_simp;(try with_reducible rfl);done));(refine aAd.t (v:=?_) 2 28 rfl rfl (by kernel_rfl) (fun _ _ _ h=>h) hHeld (Or.inl ⟨by rfl,?_⟩) ?_;rotate_left 1;focus (intro w' hSw;(try dsimp only at hSw);go_simp;(try with_reducible rfl);done));(refine aAd.t (v:=?_) 3 29 rfl rfl (by kernel_rfl) (fun _ _ _ h=>h) hHeld (Or.inl ⟨by rfl,?_⟩) ?_;rotate_left 1;focus (intro w' hSw;(try dsimp only at hSw);go_simp;(try with_reducible rfl);done));(refine aAd.t (v:=?_) 4 30 rfl rfl (by kernel_rfl) (fun _ _ _ h=>h) hHeld (Or.inl ⟨by rfl,?_⟩) ?_;rotate_left 1;focus (intro w' hSw;(try dsimp only at hSw);go_simp;(try with_reducible rfl);done));(refine aAd.t (v:=?_) 5 31 rfl rfl (by kernel_rfl) (fun _ _ _ h=>h) hHeld (Or.inl ⟨by rfl,?_⟩) ?_;rotate_left 1;focus (intro w' hSw;(try dsimp only at hSw);go_simp;(try with_reducible rfl);done));(refine aAd.t (v:=?_) 6 32 rfl rfl (by kernel_rfl) (fun _ _ _ h=>h) hHeld (Or.inl ⟨by rfl,?_⟩) ?_;rotate_left 1;focus (intro w' hSw;(try dsimp only at hSw);go_simp;(try with_reducible rfl);done));(refine aAd.t (v:=?_) 7 33 rfl rfl (by kernel_rfl) (fun _ _ _ h=>h) hHeld (Or.inl ⟨by rfl,?_⟩) ?_;rotate_left 1;focus (intro w' hSw;(try dsimp only at hSw);go_simp;(try with_reducible rfl);done));(refine aAd.t (v:=?_) 8 34 rfl rfl (by kernel_rfl) (fun _ _ _ h=>h) hHeld (Or.inl ⟨by rfl,?_⟩) ?_;rotate_left 1;focus (intro w' hSw;(try dsimp only at hSw);go_simp;(try with_reducible rfl);done))
     (refine aAd.one (i:=9) (by kernel_rfl) rfl (fun K hK=>?_));go_simp;refine hK.out _ _ (fun h=>absurd rfl h) ?_;clear hK K;refine aAd.done (by kernel_rfl) ?_ _;(try simp only [Act.put,List.setIfInBounds_toArray,List.set_cons_zero,List.set_cons_succ])
     go_wp2_with fail
     go_roundg (g.ports[v].length-(i+1))
     case rel =>
      refine ⟨i+1,by omega,rfl,by go_num,?_,?_⟩
      .have:=(((HO.out.stored v (.int .u32 (aZb (g.ports[v].take (i+1)):Int))).1).alloc (.cells #[.int .i64 (u:Int),.int .i64 (g.ports[v][i]).weight] 161)).drew
       rw [bAi g hlt] at this;exact this
      .exact ((HW.setCell (by simp;omega) _).alloc _).drew
     case measure=>omega
    .have hd2:decide (i<g.ports[v].length)=false:=by simpa using hlt2
     obtain rfl:i=g.ports[v].length:=by omega
     go_wp2_with fail
     go_roundg (g.ports.length-(v+1))
     case rel =>
      refine ⟨v+1,by omega,rfl,by go_num,?_,HW⟩
      have:=HO.out;rw [List.take_of_length_le (Nat.le_refl _),show aZb g.ports[v]=aY0 g v by unfold aY0;rw [aA7 hlt],aY2] at this
      exact this
     case measure=>omega
  .have hd0:decide (v<g.ports.length)=false:=by simpa using hlt
   obtain rfl:v=g.ports.length:=by omega
   go_wp2_with fail
   go_ret;exact ⟨_,_,rfl,fun W hW=>bL7 (bJi HO.out hW (by omega)),Nat.le_refl _,by unfold maxLen;omega,aA3 HW⟩
theorem bDs (v2:Value) (g:Graph) (w:World) (h2:aAl w v2 g) (hg:GOK g) :
  Calls prog 116 #[v2] w (bM8 g w):=(bAj v2 g w h2 hg).mono fun _ _ ⟨A,c,h1,h2,h3⟩=>⟨A,c,h1,h2 _ (aFd.refl _ _),h3⟩
theorem aHn (kind:Int) (w:World) :
  Calls prog 114 #[.int .i64 kind] w fun e w'=>e = .returned (.bool (aGw kind))/\w=w':=by
 have HF:Hid (aGw kind=(decide (1<=kind)&&decide (kind<=4))):=rfl
 by_cases h0:1<=kind
 .have d0:decide (1<=kind)=true:=by simpa using h0
  rw [d0] at HF
  by_cases h1:kind<=4
  .have d1:decide (kind<=4)=true:=by simpa using h1
   rw [d1] at HF;go_enter func114,ntmps114
   go_wp2_with fail
   go_ret;exact ⟨aA2 (by rw [HF.out];rfl),rfl⟩
  .have d1:decide (kind<=4)=false:=by simpa using h1
   rw [d1] at HF;go_enter func114,ntmps114
   go_wp2_with fail
   go_ret;exact ⟨aA2 (by rw [HF.out];rfl),rfl⟩
 .have d0:decide (1<=kind)=false:=by simpa using h0
  rw [d0] at HF;go_enter func114,ntmps114
  go_wp2_with fail
  go_ret;exact ⟨aA2 (by rw [HF.out];rfl),rfl⟩
theorem aRs (A:Option Addr) (c:Nat) (g:Graph) (kind:Int) (E S:Nat) (w:World) (hN:bB7 w A g) (hT:aG1 w) (_:E<4294967296) (hS:S<4294967296) (hw:∀ v,E.testBit v=true->v<g.ports.length) (hg:GOK g) :
  Calls prog 170 #[.slice A g.ports.length c,.int .i64 kind,.int .u32 (E:Int),.int .u32 (S:Int)] w fun e w'=>e = .returned (.bool (aBg g kind E S))/\Bel w w':=by
 have HF:Hid (aBg g kind E S=if S=0 then false else if aBh S E=false then false else if kind=1 then (S&&&(S-1))==0 else if kind=2 then aM3 g S else if kind=4 then S==E else true):=rfl
 have HN:=aA1 hN;have HT:=aA1 hT;have HS:=aA1 hS;have HG:=aA1 hg;have HB:=Bel.refl w;clear hN hT hg
 by_cases h0:S=0
 .rw [if_pos h0] at HF
  have d0:((S:Int)==0)=true:=by simpa using h0
  clear h0;go_enter func170,ntmps170
  go_wp2_with fail
  go_ret;exact ⟨aA2 HF.out.symm,HB⟩
 rw [if_neg h0] at HF;have d0:((S:Int)==0)=false:=by simpa using h0
 have HD:=aIx (T:=E) hS;have hbn:=aHi S E;cases hwi:aBh S E with
 | false =>
  rw [hwi,if_pos rfl] at HF;rw [hwi] at HD;have hz:((aHo S E:Int) != 0)=true:=by simp at HD ⊢;omega
  have hz':(aHo S E != 0)=true:=by simp at HD ⊢;omega
  clear h0 hwi HD;go_enter func170,ntmps170
  go_wp2_with fail
  go_ret;exact ⟨aA2 HF.out.symm,HB⟩
 | true =>
  rw [hwi,if_neg (by decide)] at HF
  rw [hwi] at HD;have hz:((aHo S E:Int) != 0)=false:=by simp at HD ⊢;omega
  have hz':(aHo S E != 0)=false:=by simp at HD ⊢;omega
  have HWS:Hid (∀ v,S.testBit v=true->v<g.ports.length):=fun v hv=>hw v (aB5.1 hwi v (aP0 hS hv) hv);clear hwi HD
  by_cases k1:kind=1
  .rw [if_pos k1] at HF
   subst k1;have HS1:=aA1 (show ((S:Int)-1) % 4294967296=((S-1:Nat):Int) by omega)
   have HB1:=aA1 (aH3 (S:=S) (T:=S-1) hS (by omega))
   clear h0;go_enter func170,ntmps170
   go_wp2_with fail
   go_ret;refine ⟨aA2 ?_,HB⟩
   rw [HF.out,Bool.eq_iff_iff];simp
   rw [HS1.out,HB1.out];omega
  rw [if_neg k1] at HF;have k1':(kind==1)=false:=by simpa using k1
  by_cases k2:kind=2
  .rw [if_pos k2] at HF
   subst k2;clear h0 k1;go_enter func170,ntmps170
   go_wp2_with (go_at_call 228;refine (bFx A c g S _ HN.out HT.out HS.out HWS.out HG.out).mono ?_;rintro e w' ⟨rfl,hb⟩)
   go_ret;exact ⟨aA2 HF.out.symm,hb⟩
  rw [if_neg k2] at HF;have k2':(kind==2)=false:=by simpa using k2
  by_cases k4:kind=4
  .rw [if_pos k4] at HF
   subst k4;clear h0 k1 k2;go_enter func170,ntmps170
   go_wp2_with fail
   go_ret;refine ⟨aA2 ?_,HB⟩
   rw [HF.out,Bool.eq_iff_iff];simp
   try omega
  rw [if_neg k4] at HF;have k4':(kind==4)=false:=by simpa using k4
  clear h0 k1 k2 k4;go_enter func170,ntmps170
  go_wp2_with fail
  go_ret;exact ⟨aA2 HF.out.symm,HB⟩
theorem aRq {E:Nat->Prop} {A B:World} {base e size n:Nat} {v:Value} {xs:List Value} (h:A.ownsRow base e size v n xs) (hA:Agr E A B) (hE:∀ k,base<=k->¬ E k):B.ownsRow base e size v n xs:=by
 refine ⟨h.1,?_⟩
 rcases h.2 with hn | ⟨g,cap,cur,hv,hb,hg,hr⟩
 .exact .inl hn
 .exact .inr ⟨g,cap,cur,hv,hb,(hA.block g (lt_of_block hg) (hE g hb)).trans hg,hr⟩
theorem aGi {E:Nat->Prop} {A B:World} {base e size n m c g:Nat} {xs:List Value} (h:A.ownsRow base e size (.slice (some ⟨g,0,none⟩) m c) n xs) (hA:Agr E A B) (hg:¬ E g):B.ownsRow base e size (.slice (some ⟨g,0,none⟩) m c) n xs:=by
 refine ⟨h.1,?_⟩
 rcases h.2 with ⟨hv,_⟩ | ⟨g',cap,cur,hv,hb,hg',hr⟩
 .cases hv
 .injection hv with hA' hn hc
  injection hA' with hA'
  injection hA' with hA'
  subst hA';exact .inr ⟨g,cap,cur,by rw [hn,hc],hb,(hA.block g (lt_of_block hg') hg).trans hg',hr⟩
theorem Agr.drew {E:Nat->Prop} {A B:World} (h:Agr E A B):Agr E A B.drew:=⟨h.os,h.tape,h.output,h.size,h.block⟩
theorem Agr.step {E' E:Nat->Prop} {A B C:World} (h:Agr E' A B) (k:Agr E B C) (hE:∀ q,q<A.heap.size->E q->E' q):Agr E' A C :=
 ⟨k.os.trans h.os,k.tape.trans h.tape,k.output.trans h.output,Nat.le_trans h.size k.size,fun i hi hn=>(k.block i (Nat.lt_of_lt_of_le hi h.size) (fun e=>hn (hE i hi e))).trans (h.block i hi hn)⟩
theorem aMq {B0:Nat} {A B:World} {base e size n:Nat} {v:Value} {xs:List Value} (h:A.ownsRow base e size v n xs) (hA:Agr (bHw B0 A) A B):B.ownsRow base e size v n xs:=by
 refine ⟨h.1,?_⟩
 rcases h.2 with hn | ⟨g,cap,cur,hv,hb,hg,hr⟩
 .exact .inl hn
 .exact .inr ⟨g,cap,cur,hv,hb,(hA.block g (lt_of_block hg) (by rintro ⟨_,x,hx⟩;rw [hg] at hx;cases hx)).trans hg,hr⟩
theorem bC5 {w:World} {base e size n:Nat} {v:Value} {xs:List Value} (h:w.ownsRow base e size v n xs) {B:Nat} (hB:B<base):some B≠v.ownBlock:=by
 rcases h.2 with ⟨rfl,_⟩ | ⟨g,cap,cur,rfl,hb,_⟩
 .simp [Value.ownBlock]
 .simp only [Value.ownBlock]
  intro he
  injection he with he
  omega
theorem aK8 {w:World} {base e size n:Nat} {v:Value} {xs:List Value} (h:w.ownsRow base e size v n xs):∀ k,v.ownBlock=some k->base<=k:=by
 intro k hk
 rcases h.2 with ⟨rfl,_⟩ | ⟨g,cap,cur,rfl,hb,_⟩
 .simp [Value.ownBlock] at hk
 .simp only [Value.ownBlock] at hk
  injection hk with hk
  omega
theorem aBk.grown {E:Nat->Prop} {A B:World} {row:Option Nat} (h:A.grownBy B row) (hE:∀ k,E k->some k≠row):aBk E A B:=⟨h.size,fun k hk he=>h.block k hk (hE k he)⟩
theorem aBk.alloc (E:Nat->Prop) (A:World) (o:Obj):aBk E A (A.alloc o):=aBk.of_bel ((Bel.refl A).alloc o)
theorem aBk.drew {E:Nat->Prop} {A B:World} (h:aBk E A B):aBk E A B.drew:=h
theorem aB4 {w:World} {base e size n:Nat} {v:Value} {xs:List Value} (h:w.ownsRow base e size v n xs) {a:Addr} (ha:a.block<base) (u:Value):(w.setCell a u).ownsRow base e size v n xs:=by
 refine ⟨h.1,?_⟩
 rcases h.2 with hn | ⟨g,cap,cur,hv,hb,hg,hr⟩
 .exact .inl hn
 .exact .inr ⟨g,cap,cur,hv,hb,(Below.heap_setCell _ _ _ _ (by omega)).trans hg,hr⟩
def aF7 (S:Nat):Value := .int .u32 (S:Int)
theorem aGh (x:Int):∀ u∈(#[Value.int .u32 x]:Array Value).toList,u.oneCell'=true:=by intro u hu;simp at hu;subst hu;rfl
theorem aRr {w:World} {base e c:Nat} {A:Option Addr} {xs:List Nat} (h:w.ownsRow base e 1 (.slice A xs.length c) xs.length (xs.map aF7)):aK2 w A xs.length xs:=by
 refine ⟨rfl,fun i x hx=>?_⟩
 obtain ⟨q,e1,_,q3,q4,_⟩:=aBv h (j:=i) (u:=aF7 x) (by rw [List.getElem?_map,hx];rfl)
 exact ⟨q,0,e1,q3,by simpa [aOx,aF7] using q4⟩
def aC2 (r:List Nat × Int) (w:World) (e:Ending) (w':World):Prop :=
 ∃ A c,e = .returned (.tuple #[.slice A r.1.length c,.int .i64 r.2])/\aK2 w' A r.1.length r.1/\r.1.length<=c/\c<=maxLen/\Bel w w'
theorem aC2.empty {w w':World} (k:Int) (hb:Bel w w'):aC2 ([],k) w (.returned (.tuple #[.slice none 0 0,.int .i64 k])) w':=⟨none,0,rfl,aAh.nil,Nat.le_refl _,by unfold maxLen;decide,hb⟩
theorem aC2.own {w w':World} {base e c:Nat} {A:Option Addr} {xs:List Nat} (h:w'.ownsRow base e 1 (.slice A xs.length c) xs.length (xs.map aF7)) (hb:Bel w w'):aC2 (xs,0) w (.returned (.tuple #[.slice A xs.length c,.int .i64 0])) w' :=
 ⟨A,c,rfl,aRr h,(aDp h).1,(aDp h).2,hb⟩
def aSv (E s:Nat):Nat:=if s=0 then 0 else E+1-s
theorem aTo {E s:Nat} (hE:E<4294967296) (hs:s&&&E=s) (h0:s≠0):aSv E (aGy 32 E s)<aSv E s:=by
 have hle:=aD1 hs;unfold aSv;rw [if_neg h0]
 by_cases hl:s=E
 .subst hl;rw [aHc 32 s hE,if_pos rfl];omega
 .obtain ⟨h1,h2,_⟩:=aHd 32 E s hE hs hl
  have:=aD1 h2;rw [if_neg (by omega)];omega
theorem aOk {E s:Nat}:aGy 32 E s&&&E=aGy 32 E s:=by
 unfold aGy;rw [Nat.and_assoc,Nat.and_self]
theorem bBz {E s:Nat} (hE:E<4294967296):aGy 32 E s<4294967296:=by
 have:=aD1 (aOk (E:=E) (s:=s));omega
theorem aTv {E s:Nat} (hE:E<4294967296) (_:s<=E):bits .and .u32 (((s:Int)-(E:Int)) % 4294967296) (E:Int)=((aGy 32 E s:Nat):Int):=by
 have e:((s:Int)-(E:Int)) % 4294967296=(((s+(2 ^ 32-E)) % 2 ^ 32:Nat):Int):=by omega
 rw [e,aH3 (Nat.mod_lt _ (by decide)) hE];rfl
attribute [local go_sem] Oper.semAt_some
def aT2 (v:Nat):Nat:=2 ^ v
theorem aWr (A:Option Addr) (c:Nat) (g:Graph) (E:Nat) (w:World) (hT:aG1 w) (hE:E<4294967296) (h0:E≠0) :
  Calls prog 238 #[.slice A g.ports.length c,.int .i64 1,.int .u32 (E:Int)] w (aC2 ((aB1 E).map aT2,0) w):=by
 have HT:=aA1 (fun w' (k:Bel w w')=>hT.keep k);obtain ⟨i0,hi0,hz0,hz1,hz2⟩:=info_parts aJz;have d0:((E:Int)==0)=false:=by simpa using h0
 refine aF5 func238 rfl ?_
 simp only [ntmps238,List.size_toArray,List.length_cons,List.length_nil,Nat.reduceAdd,Nat.reduceSub,Array.replicate_succ,Array.replicate_zero,List.push_toArray,List.append_toArray,List.nil_append,List.cons_append]
 go_wp2_with (go_at_call 174;refine (aJp _ _).mono ?_;rintro e w' ⟨rfl,rfl⟩)
 obtain ⟨W0,hW0⟩:∃ W0,(w.alloc (.cells #[.slice none 0 0] 31)).alloc (.cells #[.int .u32 (E:Int)] 34)=W0:=⟨_,rfl⟩;have b1:Boxed W0 w.heap.size 31 (.slice none 0 0):=by rw [<- hW0];exact (Boxed.new w _ _).alloc _
 have b2:Boxed W0 (w.heap.size+1) 34 (.int .u32 (E:Int)):=by
  rw [<- hW0];have:=Boxed.new (w.alloc (.cells #[.slice none 0 0] 31)) 34 (.int .u32 (E:Int));rw [World.size_alloc] at this;exact this
 have hb0:Bel w W0:=by rw [<- hW0];exact ((Bel.refl w).alloc _).alloc _
 have hz:W0.heap.size=w.heap.size+1+1:=by rw [<- hW0];simp
 rw [hW0];clear hW0;refine (wpIn_wide (n:=5)).1 ?_
 refine aFc (n:=5) rfl (by decide) (gf:=233) (lb:=#[.pointer (some ⟨w.heap.size+1,0,none⟩)]) (by simp [go_sem]) trivial (enters_of func233 (by kernel_rfl) rfl)
  (aRk 4 _ E W0 (by decide) hE b2 (HT.out _ hb0)) (by rintro k rfl;omega) (by rintro k rfl;exact (HT.out _ hb0).1) (fun _=>rfl) (fun k=>k=w.heap.size+1∨k=W0.heap.size∨k=W0.heap.size+1) (fun k=>Iff.rfl)
  (fun pre W=>∃ B cb,Boxed W w.heap.size 31 (.slice B pre.length cb)/\W.ownsRow (W0.heap.size+2) 34 1 (.slice B pre.length cb) pre.length ((pre.map aT2).map aF7)/\Bel w W)
  (fun c pre W=>False)
  (fun s A B ⟨B1,cb,h1,h2,h3⟩ hg=>⟨B1,cb,hg.boxed h1 (by omega),aRq h2 hg (by omega),hg.belE h3 (by omega)⟩)
  (fun c s A B h hg=>h)
  ⟨none,0,b1,World.ownsRow_nil _ _ _ _,hb0⟩
  (fun x a' W=>a'={ tmps:=#[.slice A g.ports.length c,.int .i64 1,.int .u32 (E:Int),undef,undef,undef,.slice none 0 0,.int .i64 0,.pointer (some ⟨w.heap.size,0,none⟩),.int .i64 (x:Int),undef,.int .u32 (E:Int),.bool false,.int .i64 1,.bool true,.bool true,.int .u32 (E:Int),.func (.func 233) #[] #[.pointer (some ⟨w.heap.size+1,0,none⟩)],.int .i64 (x:Int),undef,undef,undef,undef,undef,undef,undef,undef,undef,undef,undef,undef,undef,undef,undef,undef,undef,undef,undef,undef,undef,undef,undef,undef,undef,undef,undef,undef,undef,undef,undef,undef,undef,undef],defers:=[] })
  (fun _ _ _ _ h _=>h) ?assign ?body ?done ?stop
 case assign =>
  intro pre x W K hp hI hl hK
  gi_wp2
  exact hK _ _ (aBk.refl _ _) hI rfl
 case body =>
  rintro pre x a' W hp ⟨B,cb,h1,h2,h3⟩ rfl hl ⟨r,hr⟩;obtain ⟨c1,f1,l1⟩:=aA5 h1;have hx:=(aDt.1 (hp.subset (by simp):x∈aB1 E)).1
  have hx':decide (x<32)=true:=by simpa using hx
  have hpl:pre.length<=32:=by
   have:=hp.length_le;have h4:=aQv (S:=E) (n:=32) (by decide) hE
   simp at this;omega
  have e2:(2:Int) ^ x % 4294967296=((aT2 x:Nat):Int):=by
   have e3:(2:Int) ^ x=((aT2 x:Nat):Int):=by unfold aT2;rw [Int.natCast_pow];rfl
   have:=aL8 hx;rw [e3];exact Int.emod_eq_of_lt (b:=4294967296) (Int.natCast_nonneg _) (Int.ofNat_lt.2 this)
  have e4:IntKind.u32.wrap (2 ^ min x 32)=((aT2 x:Nat):Int):=by
   rw [Nat.min_eq_left (by omega),<- e2];rfl
  clear hx;refine wpIn_block ?_
  refine aAd.startIn (fun w'=>w'.cell? ⟨w.heap.size,0,none⟩=some (.slice B pre.length cb)/\w.heap.size<w'.heap.size) 5 (by kernel_rfl) (by kernel_rfl) (by rintro ⟨_,_,h⟩;exact h) ?_
  have hHeld:W.drew.cell? ⟨w.heap.size,0,none⟩=some (.slice B pre.length cb)/\w.heap.size<W.drew.heap.size:=⟨c1,l1⟩
  (refine aAd.t (v:=?_) 0 19 rfl rfl (by kernel_rfl) (fun _ _ _ h=>h) hHeld (Or.inl ⟨by rfl,?_⟩) ?_;rotate_left 1;focus (intro w' hSw;(try dsimp only at hSw);go_simp;(try with_reducible rfl);done));(refine aAd.t (v:=?_) 1 20 rfl rfl (by kernel_rfl) (fun _ _ _ h=>h) hHeld (Or.inl ⟨by rfl,?_⟩) ?_;rotate_left 1;focus (intro w' hSw;(try dsimp only at hSw);go_simp;(try with_reducible rfl);done));(refine aAd.t (v:=?_) 2 21 rfl rfl (by kernel_rfl) (fun _ _ _ h=>h) hHeld (Or.inl ⟨by rfl,?_⟩) ?_;rotate_left 1;focus (intro w' hSw;(try dsimp only at hSw);go_simp;(try with_reducible rfl);done))
  refine aAd.one (i:=3) (by kernel_rfl) rfl (fun K hK=>?_)
  go_simp
  refine hK.out _ _ (fun _=>?_) ?_
  .refine ⟨?_,?_⟩ <;> go_simp
  clear hK K hHeld
  (try simp only [Act.put,List.setIfInBounds_toArray,List.set_cons_zero,List.set_cons_succ])
  refine aAd.one (i:=4) (by kernel_rfl) rfl (fun K hK=>?_)
  refine aDd _ rfl (.tmp 19) (.tmp 22) 31 rfl (W0.heap.size+2) 34 i0 (.int .u32 0) 1 4 underlying31 hi0 hz0 hz1 hz2 rfl (by decide) B pre.length cb ((pre.map aT2).map aF7) (by simp [Act.eval]) (h2.drew.alloc _) W.heap.size #[.int .u32 ((aT2 x:Nat):Int)] 34 (0,0) (by simp [Act.eval]) (aJi _ _) rfl (aGh _) (by unfold maxLen;omega) (by omega) (by simp;omega) ?_
  intro B' cb' w4 hown hgr hat
  have hne:∀ k,orE (fun k=>k=w.heap.size+1∨k=W0.heap.size∨k=W0.heap.size+1) (fun k=>k=0) k->some k≠(Value.slice B pre.length cb).ownBlock:=by
   have:=hT.1;rintro k (h | h)
   .exact bC5 h2 (by omega)
   .exact bC5 h2 (by omega)
  have hs4:=(aBk.alloc (orE (fun k=>k=w.heap.size+1∨k=W0.heap.size∨k=W0.heap.size+1) (fun k=>k=0)) W.drew (.cells #[.int .u32 ((aT2 x:Nat):Int)] 34)).trans (aBk.grown hgr hne);have hb4:=((h3.drew).alloc (.cells #[.int .u32 ((aT2 x:Nat):Int)] 34)).grown hgr (fun k hk=>by have:=aK8 h2 k hk;omega)
  have h14:Boxed w4 w.heap.size 31 (.slice B pre.length cb):=Blk.grown (Blk.alloc (show Blk W.drew _ _ _ from h1) _) hgr (bC5 h2 (by omega))
  obtain ⟨c4,f4,l4⟩:=aA5 h14;refine hK.out _ _ (fun _=>⟨c4,l4⟩) ?_
  clear hK K
  (try simp only [Act.put,List.setIfInBounds_toArray,List.set_cons_zero,List.set_cons_succ])
  (refine aAd.one (i:=5) (by kernel_rfl) rfl (fun K hK=>?_));go_simp;refine hK.out _ _ (fun h=>absurd rfl h) ?_;clear hK K;refine aAd.done (by kernel_rfl) ?_ _;(try simp only [Act.put,List.setIfInBounds_toArray,List.set_cons_zero,List.set_cons_succ])
  refine ⟨hs4.trans (aBk.setCell _ _ _ ?_),B',cb',?_,?_,hb4.setCell (by simp) _⟩
  .have:=hT.1
   rintro ((h | h | h) | h) <;> (dsimp only at h;omega)
  .have:=h14.set (.slice B' (pre.length+1) cb')
   simpa using this
  .have:=aB4 hown (a:=⟨w.heap.size,0,none⟩) (by simp;omega) (.slice B' (pre.length+1) cb')
   simpa [aF7] using this
 case done =>
  rintro W ⟨B,cb,h1,h2,h3⟩ hK;obtain ⟨c1,f1,l1⟩:=aA5 h1;go_wp2;refine aCe (B:=w.heap.size) (aDg.push (aDg.nil _ _) (by omega) hK (by simp)) ?_
  intro W' hA hs
  refine ⟨.tuple #[.slice B (aB1 E).length cb,.int .i64 0],by simp [results,Tryz.results238,go_sem],?_⟩
  have h4:=aMq h2 hA;have h5:W'.ownsRow (W0.heap.size+2) 34 1 (.slice B ((aB1 E).map aT2).length cb) ((aB1 E).map aT2).length (((aB1 E).map aT2).map aF7):=by simpa using h4
  have:=aC2.own h5 (hA.bel h3);simpa using this
 case stop =>
  rintro c' pre W hp h hK;exact h.elim
end Go.Proofs.YtmifhmdghfbalaaGreatDoor

namespace Go.Proofs.YtmifhmdghfbalaaGreatDoor
open Go.RowKit
theorem aZt (A:Option Addr) (c:Nat) (g:Graph) (kind:Int) (E:Nat) (w:World) (hN:bB7 w A g) (hT:aG1 w) (hE:E<4294967296) (hw:∀ v,E.testBit v=true->v<g.ports.length) (hg:GOK g) :
  Calls prog 238 #[.slice A g.ports.length c,.int .i64 kind,.int .u32 (E:Int)] w (aC2 (aBf g kind E) w):=by
 have HF:Hid (aBf g kind E=if E=0 then ([],0) else if kind=1 then ((aB1 E).map (2 ^ ·),0) else if kind=4 then ([E],0) else if 10<(aB1 E).length then ([],3) else ((aAo E (lsb E)).filter (aBg g kind E),0)):=rfl
 have HB:=Bel.refl w;obtain ⟨i0,hi0,hz0,hz1,hz2⟩:=info_parts aJz
 by_cases h0:E=0
 .rw [if_pos h0] at HF
  have d0:((E:Int)==0)=true:=by simpa using h0
  clear h0 hN hT hg;go_enter func238,ntmps238
  go_wp2_with fail
  go_ret2
  rw [HF.out];exact aC2.empty _ HB
 rw [if_neg h0] at HF;have d0:((E:Int)==0)=false:=by simpa using h0
 by_cases k1:kind=1
 .rw [if_pos k1] at HF
  subst k1;have:=aWr A c g E w hT hE h0;rw [HF.out];exact this
 rw [if_neg k1] at HF;have k1':(kind==1)=false:=by simpa using k1
 by_cases k4:kind=4
 .rw [if_pos k4] at HF
  subst k4;clear h0 k1 hN hT hg;go_enter func238,ntmps238
  go_wp2_with fail
  go_ret2
  rw [HF.out];refine ⟨_,1,rfl,⟨rfl,fun i x hx=>?_⟩,Nat.le_refl _,by unfold maxLen;decide,(HB.alloc _).alloc _⟩
  match i,hx with
  | 0,hx =>
   obtain rfl:E=x:=by simpa using hx
   refine ⟨_,0,rfl,by simp,?_⟩
   unfold aOx
   go_simp
  | i+1,hx=>simp at hx
 rw [if_neg k4] at HF;have k4':(kind==4)=false:=by simpa using k4
 by_cases h10:10<(aB1 E).length
 .rw [if_pos h10] at HF
  have d10:decide ((10:Int)<((aB1 E).length:Int))=true:=by simp;omega
  clear h0 k1 k4 h10 hN hT hg;go_enter func238,ntmps238
  go_wp2_with (go_at_call 232;refine (bC1 E _ hE).mono ?_;rintro e w' ⟨rfl,hb⟩)
  go_ret2
  rw [HF.out];exact aC2.empty _ ((HB.alloc _).trans hb)
 .rw [if_neg h10] at HF
  have d10:decide ((10:Int)<((aB1 E).length:Int))=false:=by simp;omega
  have HN:=aA1 (fun w' (k:Bel w w')=>hN.keep k);have HT:=aA1 (fun w' (k:Bel w w')=>hT.keep k);have HG:=aA1 hg;have HWV:=aA1 hw;have hl1:=bK8 hE;have hl0:=aKp hE h0;have HLP:=aA1 (aFo (S:=E));have qb:=bF7 hE h0
  have hle:(aAo E (lsb E)).length<=4294967296:=by
   have:=aNr hE (E-lsb E+1) (lsb E) (by omega) aFo (aKp hE h0)
   omega
  have HLE:=aA1 hle;clear h0 k1 k4 h10 hN hT hg hw hle;go_enter func238,ntmps238
  go_wp2_with (go_at_call 232;refine (bC1 E _ hE).mono ?_;rintro e w1 ⟨rfl,hb⟩)
  have HBX:Hid (Boxed w1 w.heap.size 31 (.slice none 0 0)):=Blk.keep (Boxed.new w 31 (.slice none 0 0)) hb;replace HB:=(HB.alloc _).trans hb;have hz:=hb.size;rw [World.size_alloc] at hz;clear hb
  go_loopg [10] (aSv E (lsb E)) (fun m x wr=>∃ (s:Nat) (pre:List Nat) (R:Option Addr) (rc:Nat),m=aSv E s/\x = .int .u32 (s:Int)/\s<4294967296/\Hid (s&&&E=s)/\Hid (pre++(aAo E s).filter (aBg g kind E)=(aAo E (lsb E)).filter (aBg g kind E))/\Hid (Boxed wr w.heap.size 31 (.slice R pre.length rc))/\Hid (wr.ownsRow (w.heap.size+1) 34 1 (.slice R pre.length rc) pre.length (pre.map aF7))/\Bel w wr)
  case atStart=>exact ⟨lsb E,[],none,0,rfl,rfl,hl1,HLP.out,by show _=_;simp,HBX,World.ownsRow_nil _ _ _ _,HB⟩
  case round =>
   clear HB HBX hz hl1 hl0 qb HLP;obtain ⟨s,pre,R,rc,rfl,rfl,hs,HS,HP,HX,HO,HB⟩:=hrel;have c1:=HX.out.cell;have f1:=HX.out.frozen;have l1:=HX.out.lt
   have hpl:pre.length<=4294967296:=by
    have h1:=congrArg List.length HP.out;have h2:=List.length_filter_le (aBg g kind E) (aAo E (lsb E));have h3:=HLE.out;rw [List.length_append] at h1;omega
   by_cases hs0:s=0
   .have hq:((s:Int) != 0)=false:=by simpa using hs0
    have HZ:=aA1 hs0;clear hs0
    go_wp2_with fail
    go_ret2
    rw [HF.out];have h1:=HP.out;rw [HZ.out,aBq,List.filter_nil,List.append_nil] at h1;rw [<- h1];exact aC2.own HO.out HB
   .have hq:((s:Int) != 0)=true:=by simpa using hs0
    have hse:=aD1 HS.out;have q:=aTv (E:=E) (s:=s) hE hse;have hnl:=bBz (E:=E) (s:=s) hE;have HM:=aA1 (aTo hE HS.out hs0);have HST:=aA1 (aEu hE HS.out hs0);have HNP:=aA1 (aOk (E:=E) (s:=s));clear hs0;generalize aGy 32 E s=nx at *;cases hp:aBg g kind E s with
    | false =>
     have HP2:Hid (pre++(aAo E nx).filter (aBg g kind E)=(aAo E (lsb E)).filter (aBg g kind E)):=by
      have h1:=HP.out;rw [HST.out,List.filter_cons,hp] at h1;exact h1
     go_wp2_with (go_at_call 170;refine (aRs A c g kind E s _ (HN.out _ HB) (HT.out _ HB) hE hs HWV.out HG.out).mono ?_;rintro e w' ⟨rfl,hb⟩;rw [hp];have HX':=aA1 (Blk.keep HX.out hb:Boxed w' w.heap.size 31 (.slice R pre.length rc));have HO':=aA1 (hb.owns HO.out);have HB':=HB.trans hb;clear c1 f1 l1)
     go_roundg (aSv E nx)
     case rel=>exact ⟨nx,pre,R,rc,rfl,by go_num,hnl,HNP,HP2,HX',HO',HB'⟩
     case measure=>exact HM.out
    | true =>
     have HP2:Hid ((pre++[s])++(aAo E nx).filter (aBg g kind E)=(aAo E (lsb E)).filter (aBg g kind E)):=by
      have h1:=HP.out;rw [HST.out,List.filter_cons,hp] at h1;show _=_
      rw [List.append_assoc];exact h1
     go_wp2_with (first
      | (go_at_call 170;refine (aRs A c g kind E s _ (HN.out _ HB) (HT.out _ HB) hE hs HWV.out HG.out).mono ?_;rintro e w' ⟨rfl,hb⟩;rw [hp];have HX':=aA1 (Blk.keep HX.out hb:Boxed w' w.heap.size 31 (.slice R pre.length rc));have HO':=aA1 (hb.owns HO.out);have HB':=HB.trans hb;clear c1 f1 l1;have c1:=HX'.out.cell;have f1:=HX'.out.frozen;have l1:=HX'.out.lt)
      | (at_builtin;refine aC5 _ rfl (.tmp 48) (.tmp 50) 31 rfl (w.heap.size+1) 34 i0 (.int .u32 0) 1 4 underlying31 hi0 hz0 hz1 hz2 rfl (by decide) R pre.length rc (pre.map aF7) rfl (HO'.out.alloc _) w'.heap.size #[.int .u32 (s:Int)] 34 (0,0) rfl (aBr _ _) rfl (aGh _) (by unfold maxLen;omega) (by omega) (by simp;omega) ?_;intro R4 c4 w4 hown hgr hat;have HX4:=aA1 (Blk.grown (Blk.alloc HX'.out _) hgr (bC5 HO'.out (by omega)):Boxed w4 w.heap.size 31 (.slice R pre.length rc));have HO4:=aA1 hown;have HB4:=(HB'.alloc (.cells #[.int .u32 (s:Int)] 34)).grown hgr (fun k hk=>by have:=aK8 HO'.out k hk;omega);clear hown hgr hat c1 f1 l1;have c1:=HX4.out.cell;have f1:=HX4.out.frozen;have l1:=HX4.out.lt))
     go_roundg (aSv E nx)
     case rel =>
      refine ⟨nx,pre++[s],R4,c4,rfl,by go_num,hnl,HNP,HP2,?_,?_,HB4.setCell (by simp) _⟩
      .have:=(show Boxed w4 w.heap.size 31 (.slice R pre.length rc) from HX4.out).set (.slice R4 (pre.length+1) c4)
       show Boxed _ _ _ _
       simpa using this
      .have:=aB4 HO4.out (a:=⟨w.heap.size,0,none⟩) (by simp) (.slice R4 (pre.length+1) c4)
       show World.ownsRow _ _ _ _ _ _ _
       simpa [aF7] using this
     case measure=>exact HM.out
end Go.Proofs.YtmifhmdghfbalaaGreatDoor

