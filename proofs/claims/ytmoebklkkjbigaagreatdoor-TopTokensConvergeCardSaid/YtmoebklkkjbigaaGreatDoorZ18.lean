/- Merged. -/
import Derived.Test.YtmoebklkkjbigaaGreatDoorZ17
set_option linter.unusedSimpArgs false
set_option linter.unnecessarySimpa false
set_option linter.unusedVariables false
set_option maxRecDepth 100000
set_option maxHeartbeats 4000000
open Go.Proofs.Tryz

namespace Go.Proofs.YtmoebklkkjbigaaGreatDoor
open Go.RowKit
theorem aNc:(prog.info? 46).map (fun i=>(i.zero,i.size,i.bytes))=some (some (.int .u32 0),1,4):=by kernel_rfl
def bP2 (g:Graph) (w:World) (e:Ending) (w':World):Prop:=∃ A c,e = .returned (.slice A g.ports.length c)/\aOp w' A g/\g.ports.length<=c/\c<=maxLen/\Bel w w'
def bNb (g:Graph) (w:World) (e:Ending) (w':World):Prop:=∃ A c,e = .returned (.slice A g.ports.length c)/\(∀ W,aC3 w.heap.size w' W->aOp W A g)/\g.ports.length<=c/\c<=maxLen/\Bel w w'
theorem bOa {w:World} {base gb c s:Nat} {e:TypeId} {g:Graph} (h:w.ownsRow base e 1 (.slice (some ⟨gb,0,none⟩) g.ports.length c) g.ports.length (aD9 g g.ports.length s)):aOp w (some ⟨gb,0,none⟩) g:=by
 refine ⟨by simp [bFb],fun i x hx=>?_⟩
 have hi:i<g.ports.length:=by have:=(List.getElem?_eq_some_iff.1 hx).1;simpa [bFb] using this
 obtain ⟨q,e1,_,q3,q4,_⟩:=aAj h (aYe g s hi);refine ⟨q,0,e1,q3,?_⟩
 have:x=aP2 g i:=by
  have:=(List.getElem?_eq_some_iff.1 hx).2;simpa [bFb] using this.symm
 subst this;simpa [aKt] using q4
theorem aR7 (v2:Value) (g:Graph) (w:World) (h2:aB2 w v2 g) (hg:GOK g) :
  Calls prog 79 #[v2] w (bNb g w):=by
 have hP:∃ A k A2 k2,v2 = .agg #[.slice A g.ids.length k,.slice A2 g.ports.length k2]/\aHk w A2 g.ports.length g.ports:=by
  obtain ⟨A,k,A2,k2,e,_,_,_,hP,_⟩:=h2;exact ⟨A,k,A2,k2,e,hP⟩
 obtain ⟨A3,k3,A4,k4,rfl,hP⟩:=hP;have HP:=aA0 (fun w' (k:Bel w w')=>aHk.keep hP k);have HG:=aA0 hg;have hn:g.ports.length<=24:=hg.le;obtain ⟨i0,hi0,hz0,hz1,hz2⟩:=info_parts aNc;have HW:=Bel.refl (w.alloc (.cells #[.slice A3 g.ids.length k3,.slice A4 g.ports.length k4] 25));clear h2 hP hg;go_enter func79,ntmps79
 go_wp2_with (at_make;refine aB7 _ rfl 98 (.tmp 10) (.tmp 10) rfl (w.heap.size+1) 46 i0 (.int .u32 0) 1 underlying98 hi0 hz0 hz1 .i64 .i64 g.ports.length rfl rfl (by rw [hz2];omega) (by unfold maxLen;omega) (by simp) ?_;intro gb w1 hown hb;have HW:=hb;rw [aB3 _ rfl] at hown;have HO:=aA0 hown;clear hown hb;have q1:=aAq HW 1 (v := .slice A4 g.ports.length k4) rfl;have q2:=aDd HW)
 have hgb1:=(aAa HO.out).1
 have HO0:Hid (w1.ownsRow (w.heap.size+1) 46 1 (.slice (some ⟨gb,0,none⟩) g.ports.length g.ports.length) g.ports.length (aD9 g 0 0)):=by
  show World.ownsRow _ _ _ _ _ _ _
  rw [aYg];exact HO.out
 clear HO q1 q2
 go_loopg [4,5,7,15] g.ports.length (fun m _x _y _z z wr=>∃ v:Nat,v<=g.ports.length/\m=g.ports.length-v/\z = .int .i64 v/\Hid (wr.ownsRow (w.heap.size+1) 46 1 (.slice (some ⟨gb,0,none⟩) g.ports.length g.ports.length) g.ports.length (aD9 g v 0))/\Bel (w.alloc (.cells #[.slice A3 g.ids.length k3,.slice A4 g.ports.length k4] 25)) wr)
 case atStart=>exact ⟨0,by omega,rfl,rfl,HO0,HW⟩
 case round =>
  clear HO0 HW;obtain ⟨wo,rfl⟩:∃ wo:World,wo=wr:=⟨_,rfl⟩;obtain ⟨v,hv,rfl,rfl,HO,HW⟩:=hrel
  by_cases hlt:v<g.ports.length
  .have hd0:decide (v<g.ports.length)=true:=by simpa using hlt
   obtain ⟨b,o,R,rc,rfl,hb,hrow,hL,_,_⟩:=(HP.out _ (aA6 HW)).at_ v hlt
   have HL:=aA0 (fun w' (k:Bel w w')=>aHj.keep (by
    obtain ⟨b',o',R',rc',e1,hb',hrow',hL',_,_⟩:=(HP.out _ (Bel.refl w)).at_ v hlt;have hb0:=aA6 HW;rw [<- hb0.cell hb'] at hrow';obtain ⟨rfl,rfl⟩:b=b'/\o=o':=by simpa using e1
    rw [hrow] at hrow';injection hrow' with hrow'
    injection hrow' with e2 _ _
    subst e2
    exact hL') k)
   clear hL
   go_wp2_with fail
   have HO0:=aA0 HO.out;have hll:=aDv hlt (HG.out.links v hlt)
   go_loopg [7,22] g.ports[v].length (fun m _x z ws=>∃ i:Nat,i<=g.ports[v].length/\m=g.ports[v].length-i/\z = .int .i64 i/\Hid (ws.ownsRow (w.heap.size+1) 46 1 (.slice (some ⟨gb,0,none⟩) g.ports.length g.ports.length) g.ports.length (aD9 g v (aZh (g.ports[v].take i))))/\Bel (w.alloc (.cells #[.slice A3 g.ids.length k3,.slice (some ⟨b,o,none⟩) g.ports.length k4] 25)) ws)
   case atStart=>exact ⟨0,by omega,rfl,rfl,HO0,HW⟩
   case round =>
    clear HO HO0 HW hrow hb;obtain ⟨i,hi,rfl,rfl,HO,HW⟩:=hrel
    by_cases hlt2:i<g.ports[v].length
    .have hd2:decide (i<g.ports[v].length)=true:=by simpa using hlt2
     obtain ⟨b1,o1,rfl,hb1,c0,c1⟩:=(HL.out _ (aA6 HW)).at_ i hlt2;obtain ⟨t0,t1⟩:=aUn HG.out hlt (List.getElem_mem hlt2);have HTK:=aA0 (bIj hlt2)
     have hsl:aZh (g.ports[v].take i)<4294967296:=bIh fun l hl=>by
      have:=aUn HG.out hlt (List.mem_of_mem_take hl);omega
     obtain ⟨u,hu⟩:=Int.eq_ofNat_of_zero_le t0;rw [hu,Int.toNat_natCast] at HTK;rw [hu] at c0 t1;have hu32:u<32:=by omega
     have hu32':decide (u<32)=true:=by simpa using hu32
     obtain ⟨ql,q3,q4,q5,q6,q7⟩:=aAj HO.out (bFa g hlt (aZh (g.ports[v].take i)));obtain rfl:gb=ql:=by simpa using q3
     have hbs:=aK6 hsl hu32;rw [<- HTK.out] at hbs;clear t0 hu q3
     go_wp2_with fail
     have hsz:=HW.size;refine aA4.start (fun w'=>w'.cell? ⟨gb,v,none⟩=some (.int .u32 (aZh (g.ports[v].take i):Int))/\w'.frozen? ⟨gb,v,none⟩=false/\w'.cell? ⟨wr.heap.size,0,none⟩=some (.int .i64 (u:Int))/\gb<w'.heap.size/\wr.heap.size<w'.heap.size) 9 (by kernel_rfl) ?_
     have hHeld:(fun w':World=>w'.cell? ⟨gb,v,none⟩=some (.int .u32 (aZh (g.ports[v].take i):Int))/\w'.frozen? ⟨gb,v,none⟩=false/\w'.cell? ⟨wr.heap.size,0,none⟩=some (.int .i64 (u:Int))/\gb<w'.heap.size/\wr.heap.size<w'.heap.size) (wr.alloc (.cells #[.int .i64 (u:Int),.int .i64 (g.ports[v][i]).weight] 64)).drew:=by
      refine ⟨?_,?_,?_,?_,?_⟩ <;> go_simp <;> try omega
     (refine aA4.u (v:=?_) 0 26 rfl hHeld ?_ ?_;rotate_left 1;focus (intro w' hSw;(try dsimp only at hSw);go_simp;(try with_reducible rfl);done));(refine aA4.u (v:=?_) 1 27 rfl hHeld ?_ ?_;rotate_left 1;focus (intro w' hSw;(try dsimp only at hSw);go_simp;(try with_reducible rfl);done));(refine aA4.u (v:=?_) 2 28 rfl hHeld ?_ ?_;rotate_left 1;focus (intro w' hSw;(try dsimp only at hSw);go_simp;(try with_reducible rfl);done));(refine aA4.u (v:=?_) 3 29 rfl hHeld ?_ ?_;rotate_left 1;focus (intro w' hSw;(try dsimp only at hSw);go_simp;(try with_reducible rfl);done));(refine aA4.u (v:=?_) 4 30 rfl hHeld ?_ ?_;rotate_left 1;focus (intro w' hSw;(try dsimp only at hSw);go_simp;(try with_reducible rfl);done));(refine aA4.u (v:=?_) 5 31 rfl hHeld ?_ ?_;rotate_left 1;focus (intro w' hSw;(try dsimp only at hSw);go_simp;(try with_reducible rfl);done));(refine aA4.u (v:=?_) 6 32 rfl hHeld ?_ ?_;rotate_left 1;focus (intro w' hSw;(try dsimp only at hSw);go_simp;(try with_reducible rfl);done));(refine aA4.u (v:=?_) 7 33 rfl hHeld ?_ ?_;rotate_left 1;focus (intro w' hSw;(try dsimp only at hSw);go_simp;(try with_reducible rfl);done));(refine aA4.u (v:=?_) 8 34 rfl hHeld ?_ ?_;rotate_left 1;focus (intro w' hSw;(try dsimp only at hSw);go_simp;(try with_reducible rfl);done))
     (refine aA4.one (i:=9) (by kernel_rfl) rfl (fun K hK=>?_));go_simp;refine hK.out _ _ (fun h=>absurd rfl h) ?_;clear hK K;refine aA4.done (by kernel_rfl) ?_ _;(try simp only [Act.put,List.setIfInBounds_toArray,List.set_cons_zero,List.set_cons_succ])
     go_wp2_with fail
     go_roundg (g.ports[v].length-(i+1))
     case rel =>
      refine ⟨i+1,by omega,rfl,by go_num,?_,?_⟩
      .have:=(((HO.out.stored v (.int .u32 (aZh (g.ports[v].take (i+1)):Int))).1).alloc (.cells #[.int .i64 (u:Int),.int .i64 (g.ports[v][i]).weight] 64)).drew
       rw [bAz g hlt] at this;exact this
      .exact ((HW.setCell (by simp;omega) _).alloc _).drew
     case measure=>omega
    .have hd2:decide (i<g.ports[v].length)=false:=by simpa using hlt2
     obtain rfl:i=g.ports[v].length:=by omega
     go_wp2_with fail
     go_roundg (g.ports.length-(v+1))
     case rel =>
      refine ⟨v+1,by omega,rfl,by go_num,?_,HW⟩
      have:=HO.out;rw [List.take_of_length_le (Nat.le_refl _),show aZh g.ports[v]=aP2 g v by unfold aP2;rw [aA8 hlt],aYf] at this
      exact this
     case measure=>omega
  .have hd0:decide (v<g.ports.length)=false:=by simpa using hlt
   obtain rfl:v=g.ports.length:=by omega
   go_wp2_with fail
   go_ret;exact ⟨_,_,rfl,fun W hW=>bOa (bD4 HO.out hW (by omega)),Nat.le_refl _,by unfold maxLen;omega,aA6 HW⟩
theorem bFc (v2:Value) (g:Graph) (w:World) (h2:aB2 w v2 g) (hg:GOK g) :
  Calls prog 79 #[v2] w (bP2 g w):=(aR7 v2 g w h2 hg).mono fun _ _ ⟨A,c,h1,h2,h3⟩=>⟨A,c,h1,h2 _ (aC3.refl _ _),h3⟩
theorem aCv (kind:Int) (w:World) :
  Calls prog 34 #[.int .i64 kind] w fun e w'=>e = .returned (.bool (aF1 kind))/\w=w':=by
 have HF:Hid (aF1 kind=(decide (1<=kind)&&decide (kind<=4))):=rfl
 by_cases h0:1<=kind
 .have d0:decide (1<=kind)=true:=by simpa using h0
  rw [d0] at HF
  by_cases h1:kind<=4
  .have d1:decide (kind<=4)=true:=by simpa using h1
   rw [d1] at HF;go_enter func34,ntmps34
   go_wp2_with fail
   go_ret;exact ⟨aA1 (by rw [HF.out];rfl),rfl⟩
  .have d1:decide (kind<=4)=false:=by simpa using h1
   rw [d1] at HF;go_enter func34,ntmps34
   go_wp2_with fail
   go_ret;exact ⟨aA1 (by rw [HF.out];rfl),rfl⟩
 .have d0:decide (1<=kind)=false:=by simpa using h0
  rw [d0] at HF;go_enter func34,ntmps34
  go_wp2_with fail
  go_ret;exact ⟨aA1 (by rw [HF.out];rfl),rfl⟩
theorem aIf (A:Option Addr) (c:Nat) (g:Graph) (kind:Int) (E S:Nat) (w:World) (hN:aOp w A g) (hT:aDl w) (_:E<4294967296) (hS:S<4294967296) (hw:∀ v,E.testBit v=true->v<g.ports.length) (hg:GOK g) :
  Calls prog 124 #[.slice A g.ports.length c,.int .i64 kind,.int .u32 (E:Int),.int .u32 (S:Int)] w fun e w'=>e = .returned (.bool (aAk g kind E S))/\Bel w w':=by
 have HF:Hid (aAk g kind E S=if S=0 then false else if aBj S E=false then false else if kind=1 then (S&&&(S-1))==0 else if kind=2 then aL0 g S else if kind=4 then S==E else true):=rfl
 have HN:=aA0 hN;have HT:=aA0 hT;have HS:=aA0 hS;have HG:=aA0 hg;have HB:=Bel.refl w;clear hN hT hg
 by_cases h0:S=0
 .rw [if_pos h0] at HF
  have d0:((S:Int)==0)=true:=by simpa using h0
  clear h0;go_enter func124,ntmps124
  go_wp2_with fail
  go_ret;exact ⟨aA1 HF.out.symm,HB⟩
 rw [if_neg h0] at HF;have d0:((S:Int)==0)=false:=by simpa using h0
 have HD:=aHp (T:=E) hS;have hbn:=aEl S E;cases hwi:aBj S E with
 | false =>
  rw [hwi,if_pos rfl] at HF;rw [hwi] at HD;have hz:((aCg S E:Int) != 0)=true:=by simp at HD ⊢;omega
  have hz':(aCg S E != 0)=true:=by simp at HD ⊢;omega
  clear h0 hwi HD;go_enter func124,ntmps124
  go_wp2_with fail
  go_ret;exact ⟨aA1 HF.out.symm,HB⟩
 | true =>
  rw [hwi,if_neg (by decide)] at HF
  rw [hwi] at HD;have hz:((aCg S E:Int) != 0)=false:=by simp at HD ⊢;omega
  have hz':(aCg S E != 0)=false:=by simp at HD ⊢;omega
  have HWS:Hid (∀ v,S.testBit v=true->v<g.ports.length):=fun v hv=>hw v (aAi.1 hwi v (aIp hS hv) hv);clear hwi HD
  by_cases k1:kind=1
  .rw [if_pos k1] at HF
   subst k1;have HS1:=aA0 (show ((S:Int)-1) % 4294967296=((S-1:Nat):Int) by omega)
   have HB1:=aA0 (aCs (S:=S) (T:=S-1) hS (by omega))
   clear h0;go_enter func124,ntmps124
   go_wp2_with fail
   go_ret;refine ⟨aA1 ?_,HB⟩
   rw [HF.out,Bool.eq_iff_iff];simp
   rw [HS1.out,HB1.out];omega
  rw [if_neg k1] at HF;have k1':(kind==1)=false:=by simpa using k1
  by_cases k2:kind=2
  .rw [if_pos k2] at HF
   subst k2;clear h0 k1;go_enter func124,ntmps124
   go_wp2_with (go_at_call 155;refine (bHw A c g S _ HN.out HT.out HS.out HWS.out HG.out).mono ?_;rintro e w' ⟨rfl,hb⟩)
   go_ret;exact ⟨aA1 HF.out.symm,hb⟩
  rw [if_neg k2] at HF;have k2':(kind==2)=false:=by simpa using k2
  by_cases k4:kind=4
  .rw [if_pos k4] at HF
   subst k4;clear h0 k1 k2;go_enter func124,ntmps124
   go_wp2_with fail
   go_ret;refine ⟨aA1 ?_,HB⟩
   rw [HF.out,Bool.eq_iff_iff];simp
   try omega
  rw [if_neg k4] at HF;have k4':(kind==4)=false:=by simpa using k4
  clear h0 k1 k2 k4;go_enter func124,ntmps124
  go_wp2_with fail
  go_ret;exact ⟨aA1 HF.out.symm,HB⟩
theorem bB4 {E:Nat->Prop} {A B:World} {base e size n:Nat} {v:Value} {xs:List Value} (h:A.ownsRow base e size v n xs) (hA:Agr E A B) (hE:∀ k,base<=k->¬ E k):B.ownsRow base e size v n xs:=by
 refine ⟨h.1,?_⟩
 rcases h.2 with hn | ⟨g,cap,cur,hv,hb,hg,hr⟩
 .exact .inl hn
 .exact .inr ⟨g,cap,cur,hv,hb,(hA.block g (lt_of_block hg) (hE g hb)).trans hg,hr⟩
theorem aH7 {E:Nat->Prop} {A B:World} {base e size n m c g:Nat} {xs:List Value} (h:A.ownsRow base e size (.slice (some ⟨g,0,none⟩) m c) n xs) (hA:Agr E A B) (hg:¬ E g):B.ownsRow base e size (.slice (some ⟨g,0,none⟩) m c) n xs:=by
 refine ⟨h.1,?_⟩
 rcases h.2 with ⟨hv,_⟩ | ⟨g',cap,cur,hv,hb,hg',hr⟩
 .cases hv
 .injection hv with hA' hn hc
  injection hA' with hA'
  injection hA' with hA'
  subst hA';exact .inr ⟨g,cap,cur,by rw [hn,hc],hb,(hA.block g (lt_of_block hg') hg).trans hg',hr⟩
theorem Agr.drew {E:Nat->Prop} {A B:World} (h:Agr E A B):Agr E A B.drew:=⟨h.os,h.tape,h.output,h.size,h.block⟩
theorem Agr.step {E' E:Nat->Prop} {A B C:World} (h:Agr E' A B) (k:Agr E B C) (hE:∀ q,q<A.heap.size->E q->E' q):Agr E' A C :=
 ⟨k.os.trans h.os,k.tape.trans h.tape,k.output.trans h.output,Nat.le_trans h.size k.size,fun i hi hn=>(k.block i (Nat.lt_of_lt_of_le hi h.size) (fun e=>hn (hE i hi e))).trans (h.block i hi hn)⟩
theorem aOa {B0:Nat} {A B:World} {base e size n:Nat} {v:Value} {xs:List Value} (h:A.ownsRow base e size v n xs) (hA:Agr (bN7 B0 A) A B):B.ownsRow base e size v n xs:=by
 refine ⟨h.1,?_⟩
 rcases h.2 with hn | ⟨g,cap,cur,hv,hb,hg,hr⟩
 .exact .inl hn
 .exact .inr ⟨g,cap,cur,hv,hb,(hA.block g (lt_of_block hg) (by rintro ⟨_,x,hx⟩;rw [hg] at hx;cases hx)).trans hg,hr⟩
theorem bD3 {w:World} {base e size n:Nat} {v:Value} {xs:List Value} (h:w.ownsRow base e size v n xs) {B:Nat} (hB:B<base):some B≠v.ownBlock:=by
 rcases h.2 with ⟨rfl,_⟩ | ⟨g,cap,cur,rfl,hb,_⟩
 .simp [Value.ownBlock]
 .simp only [Value.ownBlock]
  intro he
  injection he with he
  omega
theorem bIt {w:World} {base e size n:Nat} {v:Value} {xs:List Value} (h:w.ownsRow base e size v n xs):∀ k,v.ownBlock=some k->base<=k:=by
 intro k hk
 rcases h.2 with ⟨rfl,_⟩ | ⟨g,cap,cur,rfl,hb,_⟩
 .simp [Value.ownBlock] at hk
 .simp only [Value.ownBlock] at hk
  injection hk with hk
  omega
theorem aBf.grown {E:Nat->Prop} {A B:World} {row:Option Nat} (h:A.grownBy B row) (hE:∀ k,E k->some k≠row):aBf E A B:=⟨h.size,fun k hk he=>h.block k hk (hE k he)⟩
theorem aBf.alloc (E:Nat->Prop) (A:World) (o:Obj):aBf E A (A.alloc o):=aBf.of_bel ((Bel.refl A).alloc o)
theorem aBf.drew {E:Nat->Prop} {A B:World} (h:aBf E A B):aBf E A B.drew:=h
theorem aAh {w:World} {base e size n:Nat} {v:Value} {xs:List Value} (h:w.ownsRow base e size v n xs) {a:Addr} (ha:a.block<base) (u:Value):(w.setCell a u).ownsRow base e size v n xs:=by
 refine ⟨h.1,?_⟩
 rcases h.2 with hn | ⟨g,cap,cur,hv,hb,hg,hr⟩
 .exact .inl hn
 .exact .inr ⟨g,cap,cur,hv,hb,(Below.heap_setCell _ _ _ _ (by omega)).trans hg,hr⟩
def aGa (S:Nat):Value := .int .u32 (S:Int)
theorem aMx (x:Int):∀ u∈(#[Value.int .u32 x]:Array Value).toList,u.oneCell'=true:=by intro u hu;simp at hu;subst hu;rfl
theorem aRe {w:World} {base e c:Nat} {A:Option Addr} {xs:List Nat} (h:w.ownsRow base e 1 (.slice A xs.length c) xs.length (xs.map aGa)):aBw w A xs.length xs:=by
 refine ⟨rfl,fun i x hx=>?_⟩
 obtain ⟨q,e1,_,q3,q4,_⟩:=aAj h (j:=i) (u:=aGa x) (by rw [List.getElem?_map,hx];rfl)
 exact ⟨q,0,e1,q3,by simpa [aKt,aGa] using q4⟩
def aDj (r:List Nat × Int) (w:World) (e:Ending) (w':World):Prop :=
 ∃ A c,e = .returned (.tuple #[.slice A r.1.length c,.int .i64 r.2])/\aBw w' A r.1.length r.1/\r.1.length<=c/\c<=maxLen/\Bel w w'
theorem aDj.empty {w w':World} (k:Int) (hb:Bel w w'):aDj ([],k) w (.returned (.tuple #[.slice none 0 0,.int .i64 k])) w':=⟨none,0,rfl,aAc.nil,Nat.le_refl _,by unfold maxLen;decide,hb⟩
theorem aDj.own {w w':World} {base e c:Nat} {A:Option Addr} {xs:List Nat} (h:w'.ownsRow base e 1 (.slice A xs.length c) xs.length (xs.map aGa)) (hb:Bel w w'):aDj (xs,0) w (.returned (.tuple #[.slice A xs.length c,.int .i64 0])) w' :=
 ⟨A,c,rfl,aRe h,(aCd h).1,(aCd h).2,hb⟩
def bAm (E s:Nat):Nat:=if s=0 then 0 else E+1-s
theorem bF6 {E s:Nat} (hE:E<4294967296) (hs:s&&&E=s) (h0:s≠0):bAm E (aGd 32 E s)<bAm E s:=by
 have hle:=aCt hs;unfold bAm;rw [if_neg h0]
 by_cases hl:s=E
 .subst hl;rw [aGk 32 s hE,if_pos rfl];omega
 .obtain ⟨h1,h2,_⟩:=aGl 32 E s hE hs hl
  have:=aCt h2;rw [if_neg (by omega)];omega
theorem aT0 {E s:Nat}:aGd 32 E s&&&E=aGd 32 E s:=by
 unfold aGd;rw [Nat.and_assoc,Nat.and_self]
theorem bLz {E s:Nat} (hE:E<4294967296):aGd 32 E s<4294967296:=by
 have:=aCt (aT0 (E:=E) (s:=s));omega
theorem bFd {E s:Nat} (hE:E<4294967296) (_:s<=E):bits .and .u32 (((s:Int)-(E:Int)) % 4294967296) (E:Int)=((aGd 32 E s:Nat):Int):=by
 have e:((s:Int)-(E:Int)) % 4294967296=(((s+(2 ^ 32-E)) % 2 ^ 32:Nat):Int):=by omega
 rw [e,aCs (Nat.mod_lt _ (by decide)) hE];rfl
attribute [local go_sem] Oper.semAt_some
def bFq (v:Nat):Nat:=2 ^ v
theorem aWs (A:Option Addr) (c:Nat) (g:Graph) (E:Nat) (w:World) (hT:aDl w) (hE:E<4294967296) (h0:E≠0) :
  Calls prog 84 #[.slice A g.ports.length c,.int .i64 1,.int .u32 (E:Int)] w (aDj ((aAd E).map bFq,0) w):=by
 have HT:=aA0 (fun w' (k:Bel w w')=>hT.keep k);obtain ⟨i0,hi0,hz0,hz1,hz2⟩:=info_parts aNc;have d0:((E:Int)==0)=false:=by simpa using h0
 refine aFi func84 rfl ?_
 simp only [ntmps84,List.size_toArray,List.length_cons,List.length_nil,Nat.reduceAdd,Nat.reduceSub,Array.replicate_succ,Array.replicate_zero,List.push_toArray,List.append_toArray,List.nil_append,List.cons_append]
 go_wp2_with (go_at_call 85;refine (aF3 _ _).mono ?_;rintro e w' ⟨rfl,rfl⟩)
 obtain ⟨W0,hW0⟩:∃ W0,(w.alloc (.cells #[.slice none 0 0] 39)).alloc (.cells #[.int .u32 (E:Int)] 46)=W0:=⟨_,rfl⟩;have b1:Boxed W0 w.heap.size 39 (.slice none 0 0):=by rw [<- hW0];exact (Boxed.new w _ _).alloc _
 have b2:Boxed W0 (w.heap.size+1) 46 (.int .u32 (E:Int)):=by
  rw [<- hW0];have:=Boxed.new (w.alloc (.cells #[.slice none 0 0] 39)) 46 (.int .u32 (E:Int));rw [World.size_alloc] at this;exact this
 have hb0:Bel w W0:=by rw [<- hW0];exact ((Bel.refl w).alloc _).alloc _
 have hz:W0.heap.size=w.heap.size+1+1:=by rw [<- hW0];simp
 rw [hW0];clear hW0;refine (wpIn_wide (n:=5)).1 ?_
 refine aFn (n:=5) rfl (by decide) (gf:=125) (lb:=#[.pointer (some ⟨w.heap.size+1,0,none⟩)]) (by simp [go_sem]) trivial (enters_of func125 (by kernel_rfl) rfl)
  (aJm 4 _ E W0 (by decide) hE b2 (HT.out _ hb0)) (by rintro k rfl;omega) (by rintro k rfl;exact (HT.out _ hb0).1) (fun _=>rfl) (fun k=>k=w.heap.size+1∨k=W0.heap.size∨k=W0.heap.size+1) (fun k=>Iff.rfl)
  (fun pre W=>∃ B cb,Boxed W w.heap.size 39 (.slice B pre.length cb)/\W.ownsRow (W0.heap.size+2) 46 1 (.slice B pre.length cb) pre.length ((pre.map bFq).map aGa)/\Bel w W)
  (fun c pre W=>False)
  (fun s A B ⟨B1,cb,h1,h2,h3⟩ hg=>⟨B1,cb,hg.boxed h1 (by omega),bB4 h2 hg (by omega),hg.belE h3 (by omega)⟩)
  (fun c s A B h hg=>h)
  ⟨none,0,b1,World.ownsRow_nil _ _ _ _,hb0⟩
  (fun x a' W=>a'={ tmps:=#[.slice A g.ports.length c,.int .i64 1,.int .u32 (E:Int),undef,undef,undef,.slice none 0 0,.int .i64 0,.pointer (some ⟨w.heap.size,0,none⟩),.int .i64 (x:Int),undef,.int .u32 (E:Int),.bool false,.int .i64 1,.bool true,.bool true,.int .u32 (E:Int),.func (.func 125) #[] #[.pointer (some ⟨w.heap.size+1,0,none⟩)],.int .i64 (x:Int),undef,undef,undef,undef,undef,undef,undef,undef,undef,undef,undef,undef,undef,undef,undef,undef,undef,undef,undef,undef,undef,undef,undef,undef,undef,undef,undef,undef,undef,undef,undef,undef,undef,undef],defers:=[] })
  (fun _ _ _ _ h _=>h) ?assign ?body ?done ?stop
 case assign =>
  intro pre x W K hp hI hl hK
  gi_wp2
  exact hK _ _ (aBf.refl _ _) hI rfl
 case body =>
  rintro pre x a' W hp ⟨B,cb,h1,h2,h3⟩ rfl hl ⟨r,hr⟩;obtain ⟨c1,f1,l1⟩:=aAs h1;have hx:=(aC8.1 (hp.subset (by simp):x∈aAd E)).1
  have hx':decide (x<32)=true:=by simpa using hx
  have hpl:pre.length<=32:=by
   have:=hp.length_le;have h4:=aJd (S:=E) (n:=32) (by decide) hE
   simp at this;omega
  have e2:(2:Int) ^ x % 4294967296=((bFq x:Nat):Int):=by
   have e3:(2:Int) ^ x=((bFq x:Nat):Int):=by unfold bFq;rw [Int.natCast_pow];rfl
   have:=aLb hx;rw [e3];exact Int.emod_eq_of_lt (b:=4294967296) (Int.natCast_nonneg _) (Int.ofNat_lt.2 this)
  have e4:IntKind.u32.wrap (2 ^ min x 32)=((bFq x:Nat):Int):=by
   rw [Nat.min_eq_left (by omega),<- e2];rfl
  clear hx;refine wpIn_block ?_
  refine aA4.startIn (fun w'=>w'.cell? ⟨w.heap.size,0,none⟩=some (.slice B pre.length cb)/\w.heap.size<w'.heap.size) 5 (by kernel_rfl) (by kernel_rfl) (by rintro ⟨_,_,h⟩;exact h) ?_
  have hHeld:W.drew.cell? ⟨w.heap.size,0,none⟩=some (.slice B pre.length cb)/\w.heap.size<W.drew.heap.size:=⟨c1,l1⟩
  (refine aA4.u (v:=?_) 0 19 rfl hHeld ?_ ?_;rotate_left 1;focus (intro w' hSw;(try dsimp only at hSw);go_simp;(try with_reducible rfl);done));(refine aA4.u (v:=?_) 1 20 rfl hHeld ?_ ?_;rotate_left 1;focus (intro w' hSw;(try dsimp only at hSw);go_simp;(try with_reducible rfl);done));(refine aA4.u (v:=?_) 2 21 rfl hHeld ?_ ?_;rotate_left 1;focus (intro w' hSw;(try dsimp only at hSw);go_simp;(try with_reducible rfl);done))
  refine aA4.one (i:=3) (by kernel_rfl) rfl (fun K hK=>?_)
  go_simp
  refine hK.out _ _ (fun _=>?_) ?_
  .refine ⟨?_,?_⟩ <;> go_simp
  clear hK K hHeld
  (try simp only [Act.put,List.setIfInBounds_toArray,List.set_cons_zero,List.set_cons_succ])
  refine aA4.one (i:=4) (by kernel_rfl) rfl (fun K hK=>?_)
  refine aCn _ rfl (.tmp 19) (.tmp 22) 39 rfl (W0.heap.size+2) 46 i0 (.int .u32 0) 1 4 underlying39 hi0 hz0 hz1 hz2 rfl (by decide) B pre.length cb ((pre.map bFq).map aGa) (by simp [Act.eval]) (h2.drew.alloc _) W.heap.size #[.int .u32 ((bFq x:Nat):Int)] 46 (0,0) (by simp [Act.eval]) (aMf _ _) rfl (aMx _) (by unfold maxLen;omega) (by omega) (by simp;omega) ?_
  intro B' cb' w4 hown hgr hat
  have hne:∀ k,orE (fun k=>k=w.heap.size+1∨k=W0.heap.size∨k=W0.heap.size+1) (fun k=>k=0) k->some k≠(Value.slice B pre.length cb).ownBlock:=by
   have:=hT.1;rintro k (h | h)
   .exact bD3 h2 (by omega)
   .exact bD3 h2 (by omega)
  have hs4:=(aBf.alloc (orE (fun k=>k=w.heap.size+1∨k=W0.heap.size∨k=W0.heap.size+1) (fun k=>k=0)) W.drew (.cells #[.int .u32 ((bFq x:Nat):Int)] 46)).trans (aBf.grown hgr hne);have hb4:=((h3.drew).alloc (.cells #[.int .u32 ((bFq x:Nat):Int)] 46)).grown hgr (fun k hk=>by have:=bIt h2 k hk;omega)
  have h14:Boxed w4 w.heap.size 39 (.slice B pre.length cb):=Blk.grown (Blk.alloc (show Blk W.drew _ _ _ from h1) _) hgr (bD3 h2 (by omega))
  obtain ⟨c4,f4,l4⟩:=aAs h14;refine hK.out _ _ (fun _=>⟨c4,l4⟩) ?_
  clear hK K
  (try simp only [Act.put,List.setIfInBounds_toArray,List.set_cons_zero,List.set_cons_succ])
  (refine aA4.one (i:=5) (by kernel_rfl) rfl (fun K hK=>?_));go_simp;refine hK.out _ _ (fun h=>absurd rfl h) ?_;clear hK K;refine aA4.done (by kernel_rfl) ?_ _;(try simp only [Act.put,List.setIfInBounds_toArray,List.set_cons_zero,List.set_cons_succ])
  refine ⟨hs4.trans (aBf.setCell _ _ _ ?_),B',cb',?_,?_,hb4.setCell (by simp) _⟩
  .have:=hT.1
   rintro ((h | h | h) | h) <;> (dsimp only at h;omega)
  .have:=h14.set (.slice B' (pre.length+1) cb')
   simpa using this
  .have:=aAh hown (a:=⟨w.heap.size,0,none⟩) (by simp;omega) (.slice B' (pre.length+1) cb')
   simpa [aGa] using this
 case done =>
  rintro W ⟨B,cb,h1,h2,h3⟩ hK;obtain ⟨c1,f1,l1⟩:=aAs h1;go_wp2;refine aD7 (B:=w.heap.size) (aE5.push (aE5.nil _ _) (by omega) hK (by simp)) ?_
  intro W' hA hs
  refine ⟨.tuple #[.slice B (aAd E).length cb,.int .i64 0],by simp [results,Tryz.results84,go_sem],?_⟩
  have h4:=aOa h2 hA;have h5:W'.ownsRow (W0.heap.size+2) 46 1 (.slice B ((aAd E).map bFq).length cb) ((aAd E).map bFq).length (((aAd E).map bFq).map aGa):=by simpa using h4
  have:=aDj.own h5 (hA.bel h3);simpa using this
 case stop =>
  rintro c' pre W hp h hK;exact h.elim
end Go.Proofs.YtmoebklkkjbigaaGreatDoor

namespace Go.Proofs.YtmoebklkkjbigaaGreatDoor
open Go.RowKit
theorem bA3 (A:Option Addr) (c:Nat) (g:Graph) (kind:Int) (E:Nat) (w:World) (hN:aOp w A g) (hT:aDl w) (hE:E<4294967296) (hw:∀ v,E.testBit v=true->v<g.ports.length) (hg:GOK g) :
  Calls prog 84 #[.slice A g.ports.length c,.int .i64 kind,.int .u32 (E:Int)] w (aDj (aB0 g kind E) w):=by
 have HF:Hid (aB0 g kind E=if E=0 then ([],0) else if kind=1 then ((aAd E).map (2 ^ ·),0) else if kind=4 then ([E],0) else if 10<(aAd E).length then ([],3) else ((aBc E (lsb E)).filter (aAk g kind E),0)):=rfl
 have HB:=Bel.refl w;obtain ⟨i0,hi0,hz0,hz1,hz2⟩:=info_parts aNc
 by_cases h0:E=0
 .rw [if_pos h0] at HF
  have d0:((E:Int)==0)=true:=by simpa using h0
  clear h0 hN hT hg;go_enter func84,ntmps84
  go_wp2_with fail
  go_ret2
  rw [HF.out];exact aDj.empty _ HB
 rw [if_neg h0] at HF;have d0:((E:Int)==0)=false:=by simpa using h0
 by_cases k1:kind=1
 .rw [if_pos k1] at HF
  subst k1;have:=aWs A c g E w hT hE h0;rw [HF.out];exact this
 rw [if_neg k1] at HF;have k1':(kind==1)=false:=by simpa using k1
 by_cases k4:kind=4
 .rw [if_pos k4] at HF
  subst k4;clear h0 k1 hN hT hg;go_enter func84,ntmps84
  go_wp2_with fail
  go_ret2
  rw [HF.out];refine ⟨_,1,rfl,⟨rfl,fun i x hx=>?_⟩,Nat.le_refl _,by unfold maxLen;decide,(HB.alloc _).alloc _⟩
  match i,hx with
  | 0,hx =>
   obtain rfl:E=x:=by simpa using hx
   refine ⟨_,0,rfl,by simp,?_⟩
   unfold aKt
   go_simp
  | i+1,hx=>simp at hx
 rw [if_neg k4] at HF;have k4':(kind==4)=false:=by simpa using k4
 by_cases h10:10<(aAd E).length
 .rw [if_pos h10] at HF
  have d10:decide ((10:Int)<((aAd E).length:Int))=true:=by simp;omega
  clear h0 k1 k4 h10 hN hT hg;go_enter func84,ntmps84
  go_wp2_with (go_at_call 116;refine (aPt E _ hE).mono ?_;rintro e w' ⟨rfl,hb⟩)
  go_ret2
  rw [HF.out];exact aDj.empty _ ((HB.alloc _).trans hb)
 .rw [if_neg h10] at HF
  have d10:decide ((10:Int)<((aAd E).length:Int))=false:=by simp;omega
  have HN:=aA0 (fun w' (k:Bel w w')=>hN.keep k);have HT:=aA0 (fun w' (k:Bel w w')=>hT.keep k);have HG:=aA0 hg;have HWV:=aA0 hw;have hl1:=bCt hE;have hl0:=aSy hE h0;have HLP:=aA0 (aIc (S:=E));have qb:=bH7 hE h0
  have hle:(aBc E (lsb E)).length<=4294967296:=by
   have:=aYo hE (E-lsb E+1) (lsb E) (by omega) aIc (aSy hE h0)
   omega
  have HLE:=aA0 hle;clear h0 k1 k4 h10 hN hT hg hw hle;go_enter func84,ntmps84
  go_wp2_with (go_at_call 116;refine (aPt E _ hE).mono ?_;rintro e w1 ⟨rfl,hb⟩)
  have HBX:Hid (Boxed w1 w.heap.size 39 (.slice none 0 0)):=Blk.keep (Boxed.new w 39 (.slice none 0 0)) hb;replace HB:=(HB.alloc _).trans hb;have hz:=hb.size;rw [World.size_alloc] at hz;clear hb
  go_loopg [10] (bAm E (lsb E)) (fun m x wr=>∃ (s:Nat) (pre:List Nat) (R:Option Addr) (rc:Nat),m=bAm E s/\x = .int .u32 (s:Int)/\s<4294967296/\Hid (s&&&E=s)/\Hid (pre++(aBc E s).filter (aAk g kind E)=(aBc E (lsb E)).filter (aAk g kind E))/\Hid (Boxed wr w.heap.size 39 (.slice R pre.length rc))/\Hid (wr.ownsRow (w.heap.size+1) 46 1 (.slice R pre.length rc) pre.length (pre.map aGa))/\Bel w wr)
  case atStart=>exact ⟨lsb E,[],none,0,rfl,rfl,hl1,HLP.out,by show _=_;simp,HBX,World.ownsRow_nil _ _ _ _,HB⟩
  case round =>
   clear HB HBX hz hl1 hl0 qb HLP;obtain ⟨s,pre,R,rc,rfl,rfl,hs,HS,HP,HX,HO,HB⟩:=hrel;have c1:=HX.out.cell;have f1:=HX.out.frozen;have l1:=HX.out.lt
   have hpl:pre.length<=4294967296:=by
    have h1:=congrArg List.length HP.out;have h2:=List.length_filter_le (aAk g kind E) (aBc E (lsb E));have h3:=HLE.out;rw [List.length_append] at h1;omega
   by_cases hs0:s=0
   .have hq:((s:Int) != 0)=false:=by simpa using hs0
    have HZ:=aA0 hs0;clear hs0
    go_wp2_with fail
    go_ret2
    rw [HF.out];have h1:=HP.out;rw [HZ.out,aDk,List.filter_nil,List.append_nil] at h1;rw [<- h1];exact aDj.own HO.out HB
   .have hq:((s:Int) != 0)=true:=by simpa using hs0
    have hse:=aCt HS.out;have q:=bFd (E:=E) (s:=s) hE hse;have hnl:=bLz (E:=E) (s:=s) hE;have HM:=aA0 (bF6 hE HS.out hs0);have HST:=aA0 (aFs hE HS.out hs0);have HNP:=aA0 (aT0 (E:=E) (s:=s));clear hs0;generalize aGd 32 E s=nx at *;cases hp:aAk g kind E s with
    | false =>
     have HP2:Hid (pre++(aBc E nx).filter (aAk g kind E)=(aBc E (lsb E)).filter (aAk g kind E)):=by
      have h1:=HP.out;rw [HST.out,List.filter_cons,hp] at h1;exact h1
     go_wp2_with (go_at_call 124;refine (aIf A c g kind E s _ (HN.out _ HB) (HT.out _ HB) hE hs HWV.out HG.out).mono ?_;rintro e w' ⟨rfl,hb⟩;rw [hp];have HX':=aA0 (Blk.keep HX.out hb:Boxed w' w.heap.size 39 (.slice R pre.length rc));have HO':=aA0 (hb.owns HO.out);have HB':=HB.trans hb;clear c1 f1 l1)
     go_roundg (bAm E nx)
     case rel=>exact ⟨nx,pre,R,rc,rfl,by go_num,hnl,HNP,HP2,HX',HO',HB'⟩
     case measure=>exact HM.out
    | true =>
     have HP2:Hid ((pre++[s])++(aBc E nx).filter (aAk g kind E)=(aBc E (lsb E)).filter (aAk g kind E)):=by
      have h1:=HP.out;rw [HST.out,List.filter_cons,hp] at h1;show _=_
      rw [List.append_assoc];exact h1
     go_wp2_with (first
      | (go_at_call 124;refine (aIf A c g kind E s _ (HN.out _ HB) (HT.out _ HB) hE hs HWV.out HG.out).mono ?_;rintro e w' ⟨rfl,hb⟩;rw [hp];have HX':=aA0 (Blk.keep HX.out hb:Boxed w' w.heap.size 39 (.slice R pre.length rc));have HO':=aA0 (hb.owns HO.out);have HB':=HB.trans hb;clear c1 f1 l1;have c1:=HX'.out.cell;have f1:=HX'.out.frozen;have l1:=HX'.out.lt)
      | (at_builtin;refine aBr _ rfl (.tmp 48) (.tmp 50) 39 rfl (w.heap.size+1) 46 i0 (.int .u32 0) 1 4 underlying39 hi0 hz0 hz1 hz2 rfl (by decide) R pre.length rc (pre.map aGa) rfl (HO'.out.alloc _) w'.heap.size #[.int .u32 (s:Int)] 46 (0,0) rfl (aAx _ _) rfl (aMx _) (by unfold maxLen;omega) (by omega) (by simp;omega) ?_;intro R4 c4 w4 hown hgr hat;have HX4:=aA0 (Blk.grown (Blk.alloc HX'.out _) hgr (bD3 HO'.out (by omega)):Boxed w4 w.heap.size 39 (.slice R pre.length rc));have HO4:=aA0 hown;have HB4:=(HB'.alloc (.cells #[.int .u32 (s:Int)] 46)).grown hgr (fun k hk=>by have:=bIt HO'.out k hk;omega);clear hown hgr hat c1 f1 l1;have c1:=HX4.out.cell;have f1:=HX4.out.frozen;have l1:=HX4.out.lt))
     go_roundg (bAm E nx)
     case rel =>
      refine ⟨nx,pre++[s],R4,c4,rfl,by go_num,hnl,HNP,HP2,?_,?_,HB4.setCell (by simp) _⟩
      .have:=(show Boxed w4 w.heap.size 39 (.slice R pre.length rc) from HX4.out).set (.slice R4 (pre.length+1) c4)
       show Boxed _ _ _ _
       simpa using this
      .have:=aAh HO4.out (a:=⟨w.heap.size,0,none⟩) (by simp) (.slice R4 (pre.length+1) c4)
       show World.ownsRow _ _ _ _ _ _ _
       simpa [aGa] using this
     case measure=>exact HM.out
end Go.Proofs.YtmoebklkkjbigaaGreatDoor

