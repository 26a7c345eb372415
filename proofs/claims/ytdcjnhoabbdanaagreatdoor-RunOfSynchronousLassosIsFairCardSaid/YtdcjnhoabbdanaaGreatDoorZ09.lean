/- Merged. -/
import Derived.Test.YtdcjnhoabbdanaaGreatDoorZ07
set_option linter.unusedSimpArgs false
set_option linter.unnecessarySimpa false
set_option linter.unusedVariables false
set_option maxRecDepth 100000
set_option maxHeartbeats 4000000
open Go.Proofs.Tryz

namespace Go.Proofs.YtdcjnhoabbdanaaGreatDoor
open Go.RowKit
theorem aY8 (f:FuncId) (caps:Array Value) (hp:Nat->Bool) (n:Nat) (w:World)
  (hf:∀ v w',v<n->Bel w w'->Calls prog f (#[.int .i64 (v:Int)]++caps) w' fun e w2=>e = .returned (.bool (hp v))/\Bel w' w2)
  (hcall:∀ a w',(callFunc f (#[a]++caps)).run prog w' = .ok (.enter f (#[a]++caps)) w') (hn:n<=24) :
  Calls prog 106 #[.int .i64 (n:Int),.func (.func f) #[] caps] w fun e w'=>e = .returned (.int .u32 (aBw n hp:Nat))/\Bel w w':=by
 have HF:=aA0 hf;clear hf;go_enter func106,ntmps106
 go_wp2_with fail
 have HB:=Bel.refl w
 go_loopg [5,6,8] n (fun m s _x z wr=>∃ v:Nat,v<=n/\m=n-v/\z = .int .i64 v/\s = .int .u32 (aBw v hp:Nat)/\Bel w wr)
 case atStart=>exact ⟨0,by omega,rfl,rfl,rfl,HB⟩
 case round =>
  clear HB;obtain ⟨v,hv,rfl,rfl,rfl,HB⟩:=hrel
  by_cases hlt:v<n
  .have hd0:decide (v<n)=true:=by simpa using hlt
   have hsl:=aEf hp (show v<=32 by omega)
   cases hb:hp v with
   | true =>
    go_wp2_with (((with_reducible refine (HF.out _ _ hlt HB).mono ?_);rintro e w' ⟨rfl,hbb⟩;rw [hb];replace HB:=HB.trans hbb;clear hbb))
    go_roundg (n-(v+1))
    case rel=>exact ⟨v+1,by omega,rfl,by go_num,by rw [aF4,hb,if_pos rfl,aG6 hsl (by omega)],HB⟩
    case measure=>omega
   | false =>
    go_wp2_with (((with_reducible refine (HF.out _ _ hlt HB).mono ?_);rintro e w' ⟨rfl,hbb⟩;rw [hb];replace HB:=HB.trans hbb;clear hbb))
    go_roundg (n-(v+1))
    case rel=>exact ⟨v+1,by omega,rfl,by go_num,by rw [aF4,hb];rfl,HB⟩
    case measure=>omega
  .have hd0:decide (v<n)=false:=by simpa using hlt
   obtain rfl:v=n:=by omega
   go_wp2_with fail
   go_ret;exact ⟨rfl,HB⟩
theorem aFu (S:Nat) (x:Int) (w:World) (hS:S<4294967296) :
  Calls prog 55 #[.int .u32 (S:Int),.int .i64 x] w fun e w'=>e = .returned (.bool (aOo S x))/\w=w':=by
 have HF:Hid (aOo S x=(decide (0<=x)&&decide (x<32)&&S.testBit x.toNat)):=rfl
 by_cases h0:0<=x
 .have d0:decide (0<=x)=true:=by simpa using h0
  rw [d0] at HF;obtain ⟨v,rfl⟩:=Int.eq_ofNat_of_zero_le h0
  by_cases h1:v<32
  .have d1:decide ((v:Int)<32)=true:=by simp;omega
   have d2:decide (v<32)=true:=by simpa using h1
   rw [d1,Int.toNat_natCast] at HF;clear h0;have hq:=aTe (v:=v) hS;go_enter func55,ntmps55
   go_wp2_with fail
   go_ret;exact ⟨aA2 (by rw [HF.out];simp [aZ2]),rfl⟩
  .have d1:decide ((v:Int)<32)=false:=by simp;omega
   have d2:decide (v<32)=false:=by simpa using h1
   rw [d1] at HF;clear h0;go_enter func55,ntmps55
   go_wp2_with fail
   go_ret;exact ⟨aA2 (by rw [HF.out];simp),rfl⟩
 .have d0:decide (0<=x)=false:=by simpa using h0
  rw [d0] at HF;go_enter func55,ntmps55
  go_wp2_with fail
  go_ret;exact ⟨aA2 (by rw [HF.out];simp),rfl⟩
def aCt (w:World):Prop:=0<w.heap.size/\∀ i,i<32->w.cell? ⟨0,i,none⟩=some (.int .u8 ((bruijn.getD i 0:Nat):Int))
theorem aCt.keep {w w':World} (h:aCt w) (k:Bel w w'):aCt w':=⟨Nat.lt_of_lt_of_le h.1 k.size,fun i hi=>(k.cell h.1).trans (h.2 i hi)⟩
theorem bBn {S:Nat} (h0:S≠0) (hS:S<4294967296) : -(S:Int) % 4294967296=((4294967296-S:Nat):Int):=by omega
theorem aUo {S:Nat} (hS:S<4294967296) (h0:S≠0):bits .and .u32 (S:Int) (-(S:Int) % 4294967296)=((lsb S:Nat):Int):=by
 rw [bBn h0 hS,aCv hS (by omega)];rfl
theorem aRc {k:Nat} (hk:k<32):∃ J:Nat,J<32/\((2 ^ k:Nat):Int)*125613361 % 4294967296 / 134217728=(J:Int)/\bruijn.getD J 0=k:=by
 have h:=aXg k hk;refine ⟨2 ^ k*125613361 % 4294967296 / 134217728,?_,by omega,?_⟩
 .omega
 .rw [List.getD_eq_getElem?_getD,h];rfl
theorem bCj (S:Nat) (k m:Nat) (w:World) (hT:aCt w) (hS:S<4294967296) (e:S=2 ^ k*(2*m+1)) :
  Calls prog 120 #[.int .u32 (S:Int)] w fun e w'=>e = .returned (.int .i64 (k:Int))/\w=w':=by
 have h0:S≠0:=by rw [e];exact Nat.ne_of_gt (Nat.mul_pos (Nat.two_pow_pos k) (by omega))
 have hb:((S:Int)==0)=false:=by simp;omega
 have hlt:=hT.1;obtain ⟨k',m',e',hk,hl,_⟩:=aKu hS h0
 obtain rfl:k=k':=by
  have h1:=aJk (k:=k) (m:=m) (by rw [<- e];exact hS)
  have h2:=aJk (k:=k') (m:=m') (by rw [<- e'];exact hS)
  rw [<- e] at h1;rw [<- e',h1] at h2;injection h2
 have q1:=aUo hS h0;rw [hl] at q1;obtain ⟨J,hJ,q2,hv⟩:=aRc hk;have hc:=hT.2 J hJ;rw [hv] at hc;generalize 2 ^ k=P at q1 q2;have dJ:decide (J<32)=true:=by simpa using hJ
 clear e e' hl hv hT h0 hS hJ;go_enter func120,ntmps120
 go_wp2_with fail
 go_ret;exact ⟨rfl,rfl⟩
theorem aQ4 {x:Nat} (h:x<4294967296):bits .and .u32 (x:Int) 255=((x % 256:Nat):Int):=by
 rw [show (255:Int)=((255:Nat):Int) from rfl,aCv h (by decide),Nat.and_two_pow_sub_one_eq_mod x 8]
theorem bAe (S:Nat) (w:World) (hS:S<4294967296) :
  Calls prog 113 #[.int .u32 (S:Int)] w fun e w'=>e = .returned (.int .i64 ((aAl S).length:Int))/\Bel w w':=by
 obtain ⟨b0,hb0⟩:∃ b:Nat,b=S % 256:=⟨_,rfl⟩;obtain ⟨b1,hb1⟩:∃ b:Nat,b=S / 256 % 256:=⟨_,rfl⟩;obtain ⟨b2,hb2⟩:∃ b:Nat,b=S / 65536 % 256:=⟨_,rfl⟩;obtain ⟨b3,hb3⟩:∃ b:Nat,b=S / 16777216:=⟨_,rfl⟩;have q0:bits .and .u32 (S:Int) 255=(b0:Int):=by rw [aQ4 hS,hb0]
 have q1:bits .and .u32 ((S:Int) / 256) 255=(b1:Int):=by
  rw [show (S:Int) / 256=((S / 256:Nat):Int) by omega,aQ4 (by omega),hb1]
 have q2:bits .and .u32 ((S:Int) / 65536) 255=(b2:Int):=by
  rw [show (S:Int) / 65536=((S / 65536:Nat):Int) by omega,aQ4 (by omega),hb2]
 have q3:(S:Int) / 16777216=(b3:Int):=by omega
 have l0:(b0:Int)<=255:=by omega
 have l1:(b1:Int)<=255:=by omega
 have l2:(b2:Int)<=255:=by omega
 have l3:(b3:Int)<=255:=by omega
 have i0:b0<=255:=by omega
 have i1:b1<=255:=by omega
 have i2:b2<=255:=by omega
 have i3:b3<=255:=by omega
 have HB:=aA0 (And.intro hb0 (And.intro hb1 (And.intro hb2 hb3)));clear hb0 hb1 hb2 hb3;go_enter func113,ntmps113;simp only [List.append_eq,List.cons_append,List.nil_append,Lib.fold_pop8tab]
 go_wp2
 go_region
 go_wp2;go_ret;refine ⟨aA5 ?_,(Bel.refl w).drew⟩
 obtain ⟨e0,e1,e2,e3⟩:=HB.out;rw [aQs (by omega),aQs (by omega),aQs (by omega),aQs (by omega),aTm hS,e0,e1,e2,e3]
 have h0:=aQ5 (S % 256);have h1:=aQ5 (S / 256 % 256);have h2:=aQ5 (S / 65536 % 256);have h3:=aQ5 (S / 16777216);omega
theorem aTv {n v:Nat} {ls:List Link} {i:Nat} (h:i<ls.length) (hb:aKc n v ls[i]=false):aCx n v ls=false:=by
 unfold aCx;rw [aAq h hb];rfl
theorem aTw {n v:Nat} {ls:List Link} {j i:Nat} (hj:j<i) (h:i<ls.length) (he:ls[j].to=ls[i].to):aCx n v ls=false:=by
 unfold aCx
 have:decide ((ls.map Link.to).Nodup)=false:=by
  simp only [decide_eq_false_iff_not]
  exact aEy hj (by simpa using h) (by simpa using he)
 rw [this];simp
theorem aJa (A:Option Addr) (c:Nat) (ls:List Link) (v n:Nat) (w:World) (h:aGo w A ls.length ls) (hl:ls.length<=1000000) (hn:n<=1000000) :
  Calls prog 97 #[.slice A ls.length c,.int .i64 v,.int .i64 n] w fun e w'=>e = .returned (.bool (aCx n v ls))/\Bel w w':=by
 have H:=aA0 (fun w' (k:Bel w w')=>aGo.keep h k);clear h;go_enter func97,ntmps97;go_wp2
 go_loopg [7,8] ls.length (fun m x _y wr=>∃ j:Nat,j<=ls.length/\m=ls.length-j/\Hid ((ls.take j).all (aKc n v)=true/\((ls.map Link.to).take j).Nodup)/\x = .int .i64 j/\Bel w wr)
 case atStart=>exact ⟨0,by omega,rfl,⟨rfl,by simp⟩,rfl,Bel.refl _⟩
 case round =>
  obtain ⟨i,hi,rfl,HK,rfl,HB⟩:=hrel
  by_cases hlt:i<ls.length
  .obtain ⟨b,o,rfl,hb,hl1,hl2⟩:=(H.out _ HB).at_ i hlt
   cases hok:aKc n v ls[i] with
   | false =>
    have HF:=aA0 (aTv hlt hok);have HO:=aA0 hok;clear hok
    go_wp2_with (go_at_call 92;refine (aCo _ _ _ _).mono ?_;rintro e w' ⟨rfl,rfl⟩)
    all_goals first
     | (go_ret;exact ⟨aA2 HF.out.symm,HB⟩)
     | (exfalso
        have a1:inB ls[i].to 0 (↑n-1)=true:=by assumption
        obtain ⟨a2,a3'⟩:(ls[i].to==(v:Int))=false/\(!inB ls[i].weight 1 15)=false:=by assumption
        have a3:inB ls[i].weight 1 15=true:=by simpa using a3'
        rw [aL7] at a1 a3;have a4:ls[i].to≠(v:Int):=by simpa using a2
        have:=HO.out;rw [aC1.2 ⟨by omega,by omega,a4,by omega,by omega⟩] at this
        cases this)
   | true =>
    obtain ⟨q1,q2,q3,q4,q5⟩:=aC1.1 hok;have a1:inB ls[i].to 0 (↑n-1)=true:=aDx (by omega) (by omega)
    have a2:(ls[i].to==(v:Int))=false:=by simpa using q3
    have a3:inB ls[i].weight 1 15=true:=aDx (by omega) (by omega)
    have HO:=aA0 hok;clear hok q3
    go_wp2_with (go_at_call 92;refine (aCo _ _ _ _).mono ?_;rintro e w' ⟨rfl,rfl⟩)
    clear a1 a2 a3
    go_loopg [8] i (fun m x ws=>∃ j:Nat,j<=i/\m=i-j/\Hid (∀ q,(hq:q<j)->(hq':q<ls.length)->ls[q].to≠ls[i].to)/\x = .int .i64 j/\Bel wr ws)
    case atStart=>exact ⟨0,by omega,rfl,fun q hq=>absurd hq (by omega),rfl,Bel.refl _⟩
    case round =>
     obtain ⟨j,hj,rfl,HJ,rfl,HB2⟩:=hrel
     by_cases hlt2:j<i
     .have hji:j<ls.length:=by omega
      obtain ⟨b',o',e',hb',hj1,_⟩:=(H.out _ (HB.trans HB2)).at_ j hji;obtain ⟨rfl,rfl⟩:b=b'/\o=o':=by simpa using e'
      clear e';have hi1:=(HB2.cell hb).trans hl1;have hd:decide (j<i)=true:=by simpa using hlt2
      go_wp2
      go_quiet (fail)
      go_wp2
      .have he:(ls[j].to==ls[i].to)=true:=by assumption
       go_ret;exact ⟨aA2 (aTw hlt2 hlt (by simpa using he)).symm,(HB.trans HB2).drewN _⟩
      .have he:(ls[j].to==ls[i].to)=false:=by assumption
       go_roundg (i-(j+1))
       case rel =>
        refine ⟨j+1,by omega,rfl,?_,by go_num,HB2.drewN _⟩
        intro q hq hq'
        rcases Nat.lt_or_ge q j with h | h
        .exact HJ.out q h hq'
        .obtain rfl:q=j:=by omega
         simpa using he
       case measure=>omega
     .have hd:decide (j<i)=false:=by simpa using hlt2
      go_wp2
      go_roundg (ls.length-(i+1))
      case rel =>
       refine ⟨i+1,by omega,rfl,⟨aAb hlt HK.out.1 HO.out,aE9 (by simpa using hlt) HK.out.2 ?_⟩,by go_num,HB.trans HB2⟩
       intro q hq
       have:=HJ.out q (by omega) (by omega)
       simpa using this
      case measure=>omega
  .go_wp2
   go_ret;refine ⟨aA2 ?_,HB⟩
   symm
   rw [aBq];have h1:=HK.out;rw [List.take_of_length_le (by omega),List.take_of_length_le (by simp;omega)] at h1
   exact ⟨List.all_eq_true.1 h1.1,h1.2⟩
theorem aE3 {g:Graph} (h:¬ GOK g):aDr g=false:=by
 rw [Bool.eq_false_iff];intro hb;exact h ((aDj g).1 hb)
theorem aC2 (v:Value) (g:Graph) (w:World) (h:aAn w v g) (hlg:aB3 g=true) :
  Calls prog 72 #[v] w fun e w'=>e = .returned (.bool (aDr g))/\Bel w w':=by
 have HG:=aA0 (fun w' (k:Bel w w')=>h.keep k);obtain ⟨A,k,A2,k2,rfl,hI,_,_,hP,_,_⟩:=h;have HI:=aA0 (fun w' (k:Bel w w')=>aBm.keep hI k);clear hI;have HP:=aA0 (fun w' (k:Bel w w')=>aFa.keep hP k);clear hP;obtain ⟨hl1,hl2,hl3⟩:=aDd hlg;have HL3:=aA0 hl3;clear hl3 hlg
 by_cases hn:1<=g.ports.length/\g.ports.length<=24/\g.ids.length=g.ports.length
 .obtain ⟨hn1,hn2,hn3⟩:=hn
  have hb1:inB (g.ports.length:Int) 1 24=true:=aDx (by omega) (by omega)
  rw [hn3] at HI HG ⊢;have HN:=aA0 hn3;clear hn3;have hb2:(g.ports.length != g.ports.length)=false:=by simp
  have HW:=Bel.refl (w.alloc (.cells #[.slice A g.ports.length k,.slice A2 g.ports.length k2] 29));go_enter func72,ntmps72
  go_wp2_with (go_at_call 92;refine (aCo _ _ _ _).mono ?_;rintro e w' ⟨rfl,rfl⟩)
  clear hb1 hb2
  go_loopg [4,5] g.ports.length (fun m x _y wr=>∃ j:Nat,j<=g.ports.length/\m=g.ports.length-j/\Hid ((g.ids.take j).all (fun i=>decide (0<=i/\i<=255))=true/\(g.ids.take j).Nodup/\∀ q,q<j->(hq:q<g.ports.length)->aCx g.ports.length q g.ports[q]=true)/\x = .int .i64 j/\Bel (w.alloc (.cells #[.slice A g.ports.length k,.slice A2 g.ports.length k2] 29)) wr)
  case atStart=>exact ⟨0,by omega,rfl,⟨rfl,by simp,fun q hq=>absurd hq (by omega)⟩,rfl,HW⟩
  case round =>
   clear HW;obtain ⟨i,hi,rfl,HK,rfl,HB⟩:=hrel;have b0:=aA9 HB 0 rfl;have b1:=aA9 HB 1 rfl;have bs:=aAy HB
   by_cases hlt:i<g.ports.length
   .have hd0:decide (i<g.ports.length)=true:=by simpa using hlt
    have hlt':i<g.ids.length:=by rw [HN.out];exact hlt
    obtain ⟨b,o,rfl,hb,hid⟩:=(HI.out _ (aA3 HB)).at_ i hlt';obtain ⟨b',o',R,c',rfl,hb',hrow,hL,_,_⟩:=(HP.out _ (aA3 HB)).at_ i hlt;have HL:=aA0 hL;clear hL;have hle:=HL3.out g.ports[i] (List.getElem_mem hlt);cases hio:decide (0<=g.ids[i]/\g.ids[i]<=255) with
    | false =>
     have hio':=of_decide_eq_false hio;have HF:Hid (aDr g=false):=aE3 fun hg=>hio' (hg.idr _ (List.getElem_mem hlt'));have hin:inB g.ids[i] 0 255=false:=aI6 (by omega)
     clear hio hio'
     go_wp2_with (go_at_call 92;refine (aCo _ _ _ _).mono ?_;rintro e w' ⟨rfl,rfl⟩)
     go_ret;exact ⟨aA2 HF.out.symm,aA3 HB⟩
    | true =>
     have hio':=of_decide_eq_true hio;have hin:inB g.ids[i] 0 255=true:=aDx hio'.1 hio'.2;have HIO:=aA0 hio;clear hio hio';cases hok:aCx g.ports.length i g.ports[i] with
     | false =>
      have HF:Hid (aDr g=false):=aE3 fun hg=>by have:=hg.links i hlt;rw [hok] at this;cases this
      by_cases hge:g.ports.length<=g.ports[i].length
      .have hd:decide (g.ports.length<=g.ports[i].length)=true:=by simpa using hge
       go_wp2_with (go_at_call 92;refine (aCo _ _ _ _).mono ?_;rintro e w' ⟨rfl,rfl⟩)
       go_ret;exact ⟨aA2 HF.out.symm,aA3 HB⟩
      .have hd:decide (g.ports.length<=g.ports[i].length)=false:=by simpa using hge
       go_wp2_with (first
        | (go_at_call 92;refine (aCo _ _ _ _).mono ?_;rintro e w' ⟨rfl,rfl⟩)
        | (go_at_call 97;refine (aJa _ _ g.ports[i] i g.ports.length _ HL.out (by omega) (by omega)).mono ?_;rintro e w' ⟨rfl,hbb⟩;replace HB:=HB.trans hbb;clear hbb))
       go_ret;exact ⟨aA2 HF.out.symm,aA3 HB⟩
     | true =>
      have hge:=aCl hlt hok;have hd:decide (g.ports.length<=g.ports[i].length)=false:=by simp;omega
      have HOK:=aA0 hok
      go_wp2_with (first
       | (go_at_call 92;refine (aCo _ _ _ _).mono ?_;rintro e w' ⟨rfl,rfl⟩)
       | (go_at_call 97;refine (aJa _ _ g.ports[i] i g.ports.length _ HL.out (by omega) (by omega)).mono ?_;rintro e w' ⟨rfl,hbb⟩;replace HB:=HB.trans hbb;clear hbb hb hb' hid hrow;clear HL b0 b1 bs;have b0:=aA9 HB 0 rfl;have b1:=aA9 HB 1 rfl;have bs:=aAy HB))
      clear hok hin hd hd0 hge hle
      go_loopg [5] i (fun m x ws=>∃ j:Nat,j<=i/\m=i-j/\Hid (∀ q,(hq:q<j)->(hq':q<g.ids.length)->g.ids[q]≠g.ids[i])/\x = .int .i64 j/\Bel (w.alloc (.cells #[.slice (some ⟨b,o,none⟩) g.ports.length k,.slice (some ⟨b',o',none⟩) g.ports.length k2] 29)) ws)
      case atStart=>exact ⟨0,by omega,rfl,fun q hq=>absurd hq (by omega),rfl,HB⟩
      case round =>
       clear HB b0 b1 bs;obtain ⟨j,hj,rfl,HJ,rfl,HB⟩:=hrel;have b0:=aA9 HB 0 rfl;have bs:=aAy HB
       by_cases hlt2:j<i
       .have hji:j<g.ids.length:=by omega
        have hjn:j<g.ports.length:=by omega
        obtain ⟨b2,o2,e2,hb2,hj1⟩:=(HI.out _ (aA3 HB)).at_ j hji;obtain ⟨rfl,rfl⟩:b=b2/\o=o2:=by simpa using e2
        obtain ⟨b2,o2,e2,_,hi1⟩:=(HI.out _ (aA3 HB)).at_ i hlt';obtain ⟨rfl,rfl⟩:b=b2/\o=o2:=by simpa using e2
        clear e2;have hd:decide (j<i)=true:=by simpa using hlt2
        go_wp2
        go_quiet (fail)
        go_wp2
        .have he:(g.ids[j]==g.ids[i])=true:=by assumption
         go_ret;refine ⟨aA2 ?_,(aA3 HB).drewN _⟩
         symm
         refine aE3 fun hg=>?_
         exact aEy hlt2 hlt' (by simpa using he) hg.idn
        .have he:(g.ids[j]==g.ids[i])=false:=by assumption
         go_roundg (i-(j+1))
         case rel =>
          refine ⟨j+1,by omega,rfl,?_,by go_num,HB.drewN _⟩
          intro q hq hq'
          rcases Nat.lt_or_ge q j with h | h
          .exact HJ.out q h hq'
          .obtain rfl:q=j:=by omega
           simpa using he
         case measure=>omega
       .have hd:decide (j<i)=false:=by simpa using hlt2
        go_wp2
        go_roundg (g.ports.length-(i+1))
        case rel =>
         refine ⟨i+1,by omega,rfl,⟨aAb hlt' HK.out.1 HIO.out,aE9 hlt' HK.out.2.1 (fun q hq=>HJ.out q (by omega) (by omega)),?_⟩,by go_num,HB⟩
         intro q hq hq'
         rcases Nat.lt_or_ge q i with h | h
         .exact HK.out.2.2 q h hq'
         .obtain rfl:q=i:=by omega
          exact HOK.out
        case measure=>omega
   .have hd0:decide (i<g.ports.length)=false:=by simpa using hlt
    have HK1:Hid (g.ids.all (fun i=>decide (0<=i/\i<=255))=true/\g.ids.Nodup/\∀ q,(hq:q<g.ports.length)->aCx g.ports.length q g.ports[q]=true):=by
     obtain ⟨a1,a2,a3⟩:=HK.out;rw [List.take_of_length_le (by rw [HN.out];omega)] at a1 a2
     exact ⟨a1,a2,fun q hq=>a3 q (by omega) hq⟩
    clear HK;go_wp2;clear hd0
    go_loopg [6,7,8,9] g.ports.length (fun m x _y _z _u ws=>∃ j:Nat,j<=g.ports.length/\m=g.ports.length-j/\Hid (∀ q,q<j->(hq:q<g.ports.length)->∀ l∈g.ports[q],aGq g q l=true)/\x = .int .i64 j/\Bel (w.alloc (.cells #[.slice A g.ports.length k,.slice A2 g.ports.length k2] 29)) ws)
    case atStart=>exact ⟨0,by omega,rfl,fun q hq=>absurd hq (by omega),rfl,HB⟩
    case round =>
     clear HB b0 b1 bs hlt hi;obtain ⟨v,hv,rfl,HQ,rfl,HB⟩:=hrel
     by_cases hlt:v<g.ports.length
     .have hd0:decide (v<g.ports.length)=true:=by simpa using hlt
      go_wp2;clear hd0
      go_loopg [7,8,9] g.ports[v].length (fun m x _y _z ws=>∃ j:Nat,j<=g.ports[v].length/\m=g.ports[v].length-j/\Hid ((g.ports[v].take j).all (aGq g v)=true)/\x = .int .i64 j/\Bel (w.alloc (.cells #[.slice A g.ports.length k,.slice A2 g.ports.length k2] 29)) ws)
      case atStart=>exact ⟨0,by omega,rfl,rfl,rfl,HB⟩
      case round =>
       clear HB;obtain ⟨j,hj,rfl,HJ,rfl,HB⟩:=hrel;have b0:=aA9 HB 0 rfl;have b1:=aA9 HB 1 rfl;have bs:=aAy HB;obtain ⟨b',o',R,c',rfl,hb',hrow,hL,_,_⟩:=(HP.out _ (aA3 HB)).at_ v hlt;have hle:=HL3.out g.ports[v] (List.getElem_mem hlt)
       by_cases hlt2:j<g.ports[v].length
       .obtain ⟨b2,o2,rfl,hb2,hto,hwe⟩:=hL.at_ j hlt2
        obtain ⟨hv1,hv2⟩:=aBq.1 (HK1.out.2.2 v hlt);obtain ⟨l1,l2,l3,l4,l5⟩:=aC1.1 (hv1 _ (List.getElem_mem hlt2));obtain ⟨t,ht⟩:=Int.eq_ofNat_of_zero_le l1;have htl:t<g.ports.length:=by omega
        have HBK:Hid (aGq g v g.ports[v][j]=(g.ports[t].any fun k=>k.to==(v:Int)&&k.weight==g.ports[v][j].weight)):=by
         show aGq g v g.ports[v][j]=_
         unfold aGq;rw [ht,Int.toNat_natCast,aA8 htl]
        have hnd:=(aBq.1 (HK1.out.2.2 t htl)).2;rw [ht] at hto;have HB2:=HB.alloc (.cells #[.int .i64 (t:Int),.int .i64 g.ports[v][j].weight] 102);clear hL hv1 hv2 l1 l2 l3 ht
        go_wp2_with fail
        refine (aPl _ g t (v:Int) _ (HG.out _ (aA3 HB2)) htl).mono ?_
        rintro e w2 ⟨rfl,hbb⟩;have bx0:=aA9 hbb 0 rfl;have bx1:=aA9 hbb 1 rfl;have bxs:=aAy hbb;have hbw:=aA3 hbb;have b1':=(hbw.cell bs).trans b1;have hrange:=aO8 g.ports[t] (v:Int)
        by_cases hk:aDu g.ports[t] (v:Int)<0
        .have hd1:decide (aDu g.ports[t] (v:Int)<0)=true:=by simpa using hk
         have HF:Hid (aDr g=false):=aE3 fun hg=>by
          have:=hg.back v hlt _ (List.getElem_mem hlt2);rw [HBK.out,aXc hk] at this;cases this
         go_wp2_with fail
         go_quiet (fail)
         go_wp2_with fail
         go_ret;exact ⟨aA2 HF.out.symm,((aA3 HB).trans hbw).drewN _⟩
        .obtain ⟨q,hq,hqe,hqt⟩:=aWg (Int.not_lt.1 hk)
         rw [hqe];have hd1:decide ((q:Int)<0)=false:=by simp
         have HW1:=aA0 (aTc (x:=g.ports[v][j].weight) hnd q hq hqt);obtain ⟨b4,o4,R4,c4,e4,hb4,hrow4,hL4,_,_⟩:=(HP.out _ ((aA3 HB).trans hbw)).at_ t htl;obtain ⟨rfl,rfl⟩:b'=b4/\o'=o4:=by simpa using e4
         obtain ⟨b5,o5,rfl,hb5,_,hwe5⟩:=hL4.at_ q hq;have hd2:decide (t<g.ports.length)=true:=by simpa using htl
         clear e4 hL4 hk hrange hqe hqt hnd
         go_wp2_with fail
         go_quiet (fail)
         go_wp2_with fail
         .have he:(g.ports[t][q].weight != g.ports[v][j].weight)=true:=by assumption
          go_ret;refine ⟨aA2 ?_,((aA3 HB).trans hbw).drewN _⟩
          symm
          refine aE3 fun hg=>?_
          have:=hg.back v hlt _ (List.getElem_mem hlt2);rw [HBK.out,HW1.out] at this;simp at this he
          exact he this
         .have he:(g.ports[t][q].weight != g.ports[v][j].weight)=false:=by assumption
          go_roundg (g.ports[v].length-(j+1))
          case rel =>
           refine ⟨j+1,by omega,rfl,aAb hlt2 HJ.out ?_,by go_num,(HB.trans hbw).drewN _⟩
           rw [HBK.out,HW1.out];simpa using he
          case measure=>omega
       .go_wp2
        go_roundg (g.ports.length-(v+1))
        case rel =>
         refine ⟨v+1,by omega,rfl,?_,by go_num,HB⟩
         intro q hq hq'
         rcases Nat.lt_or_ge q v with h | h
         .exact HQ.out q h hq'
         .obtain rfl:q=v:=by omega
          exact List.all_eq_true.1 (aAr (by omega) HJ.out)
        case measure=>omega
     .have hd0:decide (v<g.ports.length)=false:=by simpa using hlt
      go_wp2;go_ret;refine ⟨aA2 ?_,aA3 HB⟩
      symm
      rw [aDj];refine ⟨hn1,hn2,HN.out,?_,HK1.out.2.1,HK1.out.2.2,fun q hq=>HQ.out q (by omega) hq⟩
      intro i hi
      have:=List.all_eq_true.1 HK1.out.1 i hi;simpa using this
 .have HF:Hid (aDr g=false):=aE3 fun hg=>hn ⟨hg.pos,hg.le,hg.ids⟩
  by_cases hn2:1<=g.ports.length/\g.ports.length<=24
  .have hb1:inB (g.ports.length:Int) 1 24=true:=aDx (by omega) (by omega)
   have hb2:(g.ids.length != g.ports.length)=true:=by simp;omega
   have hb3:((g.ids.length:Int) != (g.ports.length:Int))=true:=by simp;omega
   go_enter func72,ntmps72
   go_wp2_with (go_at_call 92;refine (aCo _ _ _ _).mono ?_;rintro e w' ⟨rfl,rfl⟩)
   go_ret;exact ⟨aA2 HF.out.symm,(Bel.refl _).alloc _⟩
  .have hb1:inB (g.ports.length:Int) 1 24=false:=aI6 (by omega)
   go_enter func72,ntmps72
   go_wp2_with (go_at_call 92;refine (aCo _ _ _ _).mono ?_;rintro e w' ⟨rfl,rfl⟩)
   go_ret;exact ⟨aA2 HF.out.symm,(Bel.refl _).alloc _⟩
open Go.RowKit Go.Maps
theorem aRq (ids:List Int):aOp ids=true↔(∀ i∈ids,0<=i/\i<=255)/\ids.Nodup:=by
 unfold aOp;simp only [Bool.and_eq_true,List.all_eq_true,decide_eq_true_eq]
theorem aNf {ids:List Int} (h:¬ ((∀ i∈ids,0<=i/\i<=255)/\ids.Nodup)):aOp ids=false:=by
 rw [Bool.eq_false_iff];intro hb;exact h ((aRq ids).1 hb)
theorem aHn (A:Option Addr) (c:Nat) (ids:List Int) (w:World) (h:aBm w A ids.length ids) (hl:ids.length<=1000) :
  Calls prog 122 #[.slice A ids.length c] w fun e w'=>e = .returned (.bool (aOp ids))/\Bel w w':=by
 have H:=aA0 (fun w' (k:Bel w w')=>aBm.keep h k);clear h;have HZ:=aA0 (show Tryz.zeroCells182=Array.replicate 256 (Value.bool false) by kernel_rfl)
 have HB:=(Bel.refl w).alloc (.cells Tryz.zeroCells182 182);have HK:=aA0 (Blk.new w Tryz.zeroCells182 182);go_enter func122,ntmps122;go_wp2
 go_loopg [5,8] ids.length (fun m _x z wr=>∃ (j:Nat) (cs:Array Value),j<=ids.length/\m=ids.length-j/\z = .int .i64 j/\Hid ((∀ i∈ids.take j,0<=i/\i<=255)/\(ids.take j).Nodup)/\Hid (Blk wr w.heap.size cs 182/\∀ i:Nat,i<256->cs[i]?=some (.bool (decide ((i:Int)∈ids.take j))))/\Bel w wr)
 case atStart =>
  refine ⟨0,Tryz.zeroCells182,by omega,rfl,rfl,⟨by simp,by simp⟩,⟨HK.out,fun i hi=>?_⟩,HB⟩
  rw [HZ.out,Array.getElem?_replicate,if_pos hi];simp
 case round =>
  clear HB HK;obtain ⟨j,cs,hj,rfl,rfl,HJ,HC,HB⟩:=hrel
  by_cases hlt:j<ids.length
  .have hd0:decide (j<ids.length)=true:=by simpa using hlt
   obtain ⟨b,o,rfl,hb,hc⟩:=(H.out _ HB).at_ j hlt
   by_cases hr:0<=ids[j]/\ids[j]<=255
   .obtain ⟨q,hq⟩:=Int.eq_ofNat_of_zero_le hr.1
    have hq256:q<256:=by omega
    have y1:=HC.out.1.cell q (HC.out.2 q hq256);have y2:=HC.out.1.frozen q;have y3:=HC.out.1.lt;have HM:Hid (ids[j]=(q:Int)):=hq;rw [hq] at hc;have hd1:decide ((q:Int)<0)=false:=by simp
    have hd2:decide (255<(q:Int))=false:=by simp;omega
    by_cases hin:(q:Int)∈ids.take j
    .have HF:Hid (aOp ids=false):=aNf fun h=>by
      obtain ⟨i,hi1,hi3⟩:=List.mem_take_iff_getElem.1 hin;exact aEy (j:=i) (by omega) hlt (by rw [hi3,HM.out]) h.2
     rw [decide_eq_true hin] at y1;clear hr hq
     go_wp2_with fail
     go_ret;exact ⟨aA2 HF.out.symm,HB⟩
    .rw [decide_eq_false hin] at y1
     have HIN:=aA0 hin;clear hr hq hin
     go_wp2_with fail
     go_roundg (ids.length-(j+1))
     case rel =>
      refine ⟨j+1,cs.setIfInBounds q (.bool true),by omega,rfl,by go_num,⟨?_,aE9 hlt HJ.out.2 ?_⟩,⟨HC.out.1.set q _,fun i hi=>?_⟩,HB.setCell (by simp) _⟩
      .intro i hi
       rw [List.take_succ_eq_append_getElem hlt,List.mem_append] at hi
       rcases hi with hi | hi
       .exact HJ.out.1 i hi
       .simp at hi;subst hi;rw [HM.out];omega
      .intro i hi he
       exact HIN.out (by rw [<- HM.out,<- he,List.mem_take_iff_getElem];exact ⟨i,by omega,rfl⟩)
      .have hs:q<cs.size:=by
        have:=HC.out.2 q hq256;rw [Array.getElem?_eq_some_iff] at this;exact this.1
       rw [Array.getElem?_setIfInBounds,List.take_succ_eq_append_getElem hlt,HM.out]
       by_cases hqi:q=i
       .subst hqi;rw [if_pos rfl,if_pos hs];simp
       .rw [if_neg hqi,HC.out.2 i hi]
        congr 2
        rw [Bool.eq_iff_iff];simp;omega
     case measure=>omega
   .have HF:Hid (aOp ids=false):=aNf fun h=>hr (h.1 _ (List.getElem_mem hlt))
    by_cases hneg:ids[j]<0
    .have hd1:decide (ids[j]<0)=true:=by simpa using hneg
     clear hr
     go_wp2_with fail
     go_ret;exact ⟨aA2 HF.out.symm,HB⟩
    .have hd1:decide (ids[j]<0)=false:=by simpa using hneg
     have hd2:decide (255<ids[j])=true:=by simp;omega
     clear hr
     go_wp2_with fail
     go_ret;exact ⟨aA2 HF.out.symm,HB⟩
  .have hd0:decide (j<ids.length)=false:=by simpa using hlt
   go_wp2_with fail
   go_ret;refine ⟨aA2 ?_,HB⟩
   symm
   rw [aRq];have:=HJ.out;rw [List.take_of_length_le (by omega)] at this
   exact this
theorem pairK:PairK prog 149 3:=⟨underlying149,underlying3,by kernel_rfl,by kernel_rfl,by kernel_rfl,⟨_,rfl⟩⟩
theorem aXu (w:World):(zeroValue 3).run prog w = .ok (.int .i64 0) w:=by kernel_rfl
theorem aR6 (A:Option Addr) (c:Nat) (ports:List (List Link)) (w:World) (h:aFa w A ports.length ports) (hl:ports.length<=30) (hl2:∀ r∈ports,r.length<=30) :
  Calls prog 123 #[.slice A ports.length c] w fun e w'=>e = .returned (.bool (bAp ports))/\Bel w w':=by
 have HP:=aA0 (fun w' (k:Bel w w')=>aFa.keep h k);clear h;have HL2:=aA0 hl2;clear hl2;have hmm:=@run_makeMap prog;have HM0:=aA0 (aGj.made prog 149 3 w);have HB:=(Bel.refl w).alloc (.map #[] 0);go_enter func123,ntmps123;go_wp2;clear hmm
 go_loopg [4,5,7,8,9,10,16] ports.length (fun m _x1 _x2 _x3 _x4 _x5 _x6 z wr=>∃ (v n:Nat) (D:DataW Unit),v<=ports.length/\m=ports.length-v/\z = .int .i64 v/\n<=40*v/\Hid (∀ u,u<v->(hu:u<ports.length)->aCx ports.length u ports[u]=true)/\Hid (aGj prog 149 3 wr w.heap.size n D (mOf ports v 0))/\Bel w wr)
 case atStart =>
  refine ⟨0,0,.map [],by omega,rfl,rfl,by omega,fun u hu=>absurd hu (by omega),?_,HB⟩
  have:(fun _ _=>0)=mOf ports 0 0:=by funext a b;rw [aY1]
  rw [<- this];exact HM0
 case round =>
  clear HB HM0;obtain ⟨v,n,D,hv,rfl,rfl,hn,HV,HM,HB⟩:=hrel
  by_cases hlt:v<ports.length
  .have hd0:decide (v<ports.length)=true:=by simpa using hlt
   obtain ⟨b,o,R,c1,rfl,hb,hrow,hL,_,_⟩:=(HP.out _ HB).at_ v hlt;have HL:=aA0 (fun w' (k:Bel wr w')=>aGo.keep hL k);clear hL;have hrl:=HL2.out _ (List.getElem_mem hlt);go_wp2;clear hd0 hrow hb;have HW:=Bel.refl wr;have hmn:w.heap.size<wr.heap.size:=HM.out.1.lt
   go_loopg [7,8,9,10,23] ports[v].length (fun m _x3 _x4 _x5 _x6 z ws=>∃ (j n:Nat) (D:DataW Unit),j<=ports[v].length/\m=ports[v].length-j/\z = .int .i64 j/\n<=40*v+j/\Hid ((ports[v].take j).all (aKc ports.length v)=true/\((ports[v].map Link.to).take j).Nodup)/\Hid (aGj prog 149 3 ws w.heap.size n D (mOf ports v j))/\Bel w ws/\Hid (aGo ws R ports[v].length ports[v]))
   case atStart=>exact ⟨0,n,D,by omega,rfl,rfl,by omega,⟨rfl,by simp⟩,HM,HB,HL.out _ HW⟩
   case round =>
    clear HB HM HW HL hmn;obtain ⟨j,n,D,hj,rfl,rfl,hn,HJ,HM,HB,HL⟩:=hrel
    by_cases hlt2:j<ports[v].length
    .have hd0:decide (j<ports[v].length)=true:=by simpa using hlt2
     obtain ⟨b2,o2,rfl,hb2,l1,l2⟩:=HL.out.at_ j hlt2;cases hok:aKc ports.length v ports[v][j] with
     | false =>
      have HF:Hid (bAp ports=false):=aLi fun h=>by
       have:=(aBq.1 (h.links v hlt)).1 _ (List.getElem_mem hlt2);rw [hok] at this;cases this
      have HB2:=HB.alloc (.cells #[.int .i64 ports[v][j].to,.int .i64 ports[v][j].weight] 102);have HO:=aA0 hok;clear hok
      by_cases hq:0<=ports[v][j].to/\ports[v][j].to<(ports.length:Int)/\ports[v][j].to≠(v:Int)
      .obtain ⟨q1,q2,q3⟩:=hq
       have hw:ports[v][j].weight<1∨15<ports[v][j].weight:=by
        rcases Int.lt_or_le ports[v][j].weight 1 with h | h
        .exact .inl h
        .rcases Int.lt_or_le 15 ports[v][j].weight with h' | h'
         .exact .inr h'
         .have:=HO.out
          rw [aC1.2 ⟨q1,q2,q3,h,h'⟩] at this;cases this
       have d1:decide (ports[v][j].to<0)=false:=by simp;omega
       have d2:decide ((ports.length:Int)<=ports[v][j].to)=false:=by simp;omega
       have d3:(ports[v][j].to==(v:Int))=false:=by simpa using q3
       clear q1 q2 q3
       rcases hw with hw | hw
       .have d4:decide (ports[v][j].weight<1)=true:=by simpa using hw
        go_wp2_with fail
        go_ret;exact ⟨aA2 HF.out.symm,HB2⟩
       .have d4:decide (ports[v][j].weight<1)=false:=by simp;omega
        have d5:decide (15<ports[v][j].weight)=true:=by simpa using hw
        go_wp2_with fail
        go_ret;exact ⟨aA2 HF.out.symm,HB2⟩
      .have hcase:ports[v][j].to<0∨(0<=ports[v][j].to/\(ports.length:Int)<=ports[v][j].to)∨(0<=ports[v][j].to/\ports[v][j].to<(ports.length:Int)/\ports[v][j].to=(v:Int)):=by omega
       clear hq
       rcases hcase with h1 | ⟨h1,h2⟩ | ⟨h1,h2,h3⟩
       .have d1:decide (ports[v][j].to<0)=true:=by simpa using h1
        go_wp2_with fail
        go_ret;exact ⟨aA2 HF.out.symm,HB2⟩
       .have d1:decide (ports[v][j].to<0)=false:=by simp;omega
        have d2:decide ((ports.length:Int)<=ports[v][j].to)=true:=by simpa using h2
        go_wp2_with fail
        go_ret;exact ⟨aA2 HF.out.symm,HB2⟩
       .have d1:decide (ports[v][j].to<0)=false:=by simp;omega
        have d2:decide ((ports.length:Int)<=ports[v][j].to)=false:=by simp;omega
        have d3:(ports[v][j].to==(v:Int))=true:=by simpa using h3
        have HH:=aA0 h3;clear h3
        go_wp2_with fail
        go_ret;exact ⟨aA2 HF.out.symm,HB2⟩
     | true =>
      obtain ⟨q1,q2,q3,q4,q5⟩:=aC1.1 hok;obtain ⟨t,ht⟩:=Int.eq_ofNat_of_zero_le q1;have HO:=aA0 hok;have HTE:=aA0 ht;have d1:decide ((t:Int)<0)=false:=by simp
      have d2:decide (ports.length<=t)=false:=by simp;omega
      have d2':decide ((ports.length:Int)<=(t:Int))=false:=by simp;omega
      have d3:((t:Int)==(v:Int))=false:=by simp;omega
      have d3':(t==v)=false:=by simp;omega
      have d4:decide (ports[v][j].weight<1)=false:=by simp;omega
      have d5:decide (15<ports[v][j].weight)=false:=by simp;omega
      have wt:(Lit.int .i64 (t:Int)).wf=true:=WalkArith.wf_i64 (by omega)
      have wv:(Lit.int .i64 (v:Int)).wf=true:=WalkArith.wf_i64 (by omega)
      have ww:(Lit.int .i64 ports[v][j].weight).wf=true:=WalkArith.wf_i64 (by omega)
      have hwne:ports[v][j].weight≠0:=by omega
      rw [ht] at l1;have HB2:=(HB.alloc (.cells #[.int .i64 (t:Int),.int .i64 ports[v][j].weight] 102)).alloc (.cells #[.int .i64 (v:Int),.int .i64 (t:Int)] 149);have HW2:=((Bel.refl wr).alloc (.cells #[.int .i64 (t:Int),.int .i64 ports[v][j].weight] 102)).alloc (.cells #[.int .i64 (v:Int),.int .i64 (t:Int)] 149);have HM2:=aA0 (HM.out.keep HW2);have hlook:=aGj.lookOk pairK underlying183 HM2.out (aXu _) wv wt;unfold aOu at hlook;dsimp only at hlook
      have hwpos:∀ l∈ports[v].take j,1<=l.weight:=fun l hl=>by
       have:=List.all_eq_true.1 HJ.out.1 l hl;exact (aC1.1 this).2.2.2.1
      have hmv:mOf ports v j (v:Int) (t:Int)=wOf (ports[v].take j) (t:Int):=by
       unfold mOf;rw [if_neg (by omega),if_pos rfl,aA8 hlt]
      by_cases hdup:mOf ports v j (v:Int) (t:Int)=0
      .have hno:∀ l∈ports[v].take j,l.to≠ports[v][j].to:=by
        rw [ht];exact bBy hwpos (by rw [<- hmv];exact hdup)
       have hdd:decide (mOf ports v j (v:Int) (t:Int)≠0)=false:=by simpa using hdup
       rw [hdd,hdup] at hlook;have HNO:=aA0 hno;have HWL:=aA0 (fun w' (k:Bel wr w')=>HL.out.keep k);have hms:w.heap.size<wr.heap.size:=HM.out.1.lt;clear hdup hdd hno hwpos hmv q1 q2 q3 hok ht
       go_wp2_with (at_mapUpdate;refine wpList_mapUpdate_own _ rfl (.tmp 62) (.tmp 63) (.tmp 65) 183 rfl 149 3 pairK.law underlying183 _ w.heap.size n D rfl HM2.out.1 (by unfold maxLen;omega) _ _ _ rfl rfl (pairK.keyOf wv wt) _ [] (plainElem_int underlying3 ww) ?_;intro w3 hown hgr;have HB3:=HB2.map (Nat.le_refl _) hgr;have HP3:=aA0 (aGj.put pairK wv wt hwne HM2.out.2 hown);have HG3:=aA0 hgr;clear hown hgr)
       go_roundg (ports[v].length-(j+1))
       case rel =>
        refine ⟨j+1,n+1,D.put (pk (v:Int) (t:Int)) (.lit (.int .i64 ports[v][j].weight)),by omega,rfl,by go_num,by omega,⟨aAb hlt2 HJ.out.1 HO.out,?_⟩,?_,HB3,?_⟩
        .refine aE9 (by simpa using hlt2) HJ.out.2 (fun q hq he=>?_)
         simp at he
         exact HNO.out (ports[v][q]'(by omega)) (by rw [List.mem_take_iff_getElem];exact ⟨q,by omega,rfl⟩) he
        .have e:bC2 (mOf ports v j) (v:Int) (t:Int) ports[v][j].weight=mOf ports v (j+1):=by
          funext a b
          rw [bA4 hlt hlt2 HNO.out,HTE.out];rfl
         rw [<- e];exact HP3
        .have hk:=HWL.out _ HW2
         refine ⟨hk.1,fun i x hx=>?_⟩
         obtain ⟨bb,oo,e,hlt',hE⟩:=HL.out.2 i x hx
         have hbb:bb≠w.heap.size:=by
          intro hh
          obtain ⟨es,clock,hb',_⟩:=HM.out.1;subst hh;have h1:=hE.1;unfold World.cell? at h1;rw [hb'] at h1;simp at h1
         have hblk:w3.heap[bb]?=wr.heap[bb]?:=by
          rw [HG3.out.block bb (by have:=HW2.size;omega) (by simpa using hbb)]
          exact HW2.block bb hlt'
         have hcell:∀ o',w3.cell? ⟨bb,o',none⟩=wr.cell? ⟨bb,o',none⟩:=fun o'=>by unfold World.cell?;rw [hblk]
         refine ⟨bb,oo,e,?_,(hcell _).trans hE.1,(hcell _).trans hE.2⟩
         have:=HW2.size;have:=HG3.out.size;omega
       case measure=>omega
      .have HF:Hid (bAp ports=false):=aLi fun h=>by
        obtain ⟨l,hlm,hlt',_⟩:=aMp (ls:=ports[v].take j) (b:=(t:Int)) (by rw [<- hmv];exact hdup)
        obtain ⟨q,hq,rfl⟩:=List.mem_take_iff_getElem.1 hlm;exact aEy (j:=q) (k:=j) (by omega) (by simpa using hlt2) (by simp [hlt',ht]) (aBq.1 (h.links v hlt)).2
       rw [decide_eq_true hdup] at hlook;clear hdup hwpos hmv q1 q2 q3 hok ht
       go_wp2_with fail
       go_ret;exact ⟨aA2 HF.out.symm,HB2⟩
    .have hd0:decide (j<ports[v].length)=false:=by simpa using hlt2
     have HLV:Hid (aCx ports.length v ports[v]=true):=by
      show aCx ports.length v ports[v]=true
      rw [aBq];have h1:=HJ.out;rw [List.take_of_length_le (by omega),List.take_of_length_le (by simp;omega)] at h1
      exact ⟨List.all_eq_true.1 h1.1,h1.2⟩
     go_wp2_with fail
     go_roundg (ports.length-(v+1))
     case rel =>
      refine ⟨v+1,n,D,by omega,rfl,by go_num,by omega,?_,?_,HB⟩
      .intro u hu hu'
       rcases Nat.lt_or_ge u v with h | h
       .exact HV.out u h hu'
       .obtain rfl:u=v:=by omega
        exact HLV.out
      .have e:mOf ports v j=mOf ports (v+1) 0:=by funext a b;exact bBk hlt (by omega) a b
       rw [<- e];exact HM
     case measure=>omega
  .obtain rfl:v=ports.length:=by omega
   have hd0:decide (ports.length<ports.length)=false:=by simp
   have HSM:=aA0 (aWr (fun u hu=>HV.out u (by omega) hu))
   have HLK:=aA0 (fun u (hu:u<ports.length)=>HV.out u (by omega) hu)
   clear HV hlt hv
   go_wp2_with (at_range;refine wpList_range_own _ rfl (.tmp 68) 183 rfl 149 3 pairK.law underlying183 _ w.heap.size n D rfl HM.out.1 ?_;intro w1 hrg hgr hsz;have HB1:=HB.grown hgr (fun k hk=>by cases hk);have HRG:=aA0 hrg;clear hrg hgr hsz;go_frame)
   have hr0:w.heap.size<wr.heap.size:=HM.out.1.lt;have HM2:=aA0 HM.out.2;clear hd0 HM;generalize hrr:wr.heap.size=r at *;clear hrr
   go_loopg [11,12] (size D) (fun m _x _y ws=>∃ (left:Lit->Bool) (cnt:Nat),m=cnt/\Hid (ws.ranges prog 149 (plainElem prog 3) w.heap.size r n D left cnt)/\Hid (∀ a b,(Lit.int .i64 a).wf=true->(Lit.int .i64 b).wf=true->mOf ports ports.length 0 a b≠0->left (pk a b)=false->mOf ports ports.length 0 b a=mOf ports ports.length 0 a b)/\Bel w ws)
   case atStart =>
    refine ⟨_,_,rfl,HRG,?_,HB1⟩
    intro a b wa wb hne hlf
    have:=((HM2.out.2 a b wa wb).2).2 hne;rw [this] at hlf;cases hlf
   case round =>
    clear HB HB1 HRG;obtain ⟨left,cnt,rfl,HRG,HI,HB⟩:=hrel
    go_wp2_with (at_next;refine wpList_next_ranges _ rfl (.tmp 69) rfl 149 pairK.law (plainElem prog 3) aOu (Value.int .i64) (fun key kl hkey=>by obtain ⟨x,hx,_⟩:=pairK.inv hkey;exact ⟨x,hx⟩) (fun v y hv=>by obtain ⟨c,hc,_⟩:=plainElem_int_inv underlying3 hv;exact ⟨c,hc⟩) w.heap.size r n D left _ rfl HRG.out ?_ ?_)
    .intro _ hl0
     have HL0:=aA0 hl0;clear hl0
     go_wp2_with fail
     go_ret;refine ⟨aA2 ?_,HB⟩
     symm
     rw [aVd,HSM.out];intro a b hne
     obtain ⟨h0,h1⟩:=aY0 hne;obtain ⟨a',rfl⟩:=Int.eq_ofNat_of_zero_le h0;have hlt:a' < ports.length:=by omega
     have hne2:=hne;rw [aRs hlt hlt] at hne2;obtain ⟨l,hlm,rfl,_⟩:=aMp hne2;obtain ⟨t1,t2,_⟩:=aC1.1 ((aBq.1 (HLK.out a' hlt)).1 l hlm);exact HI.out _ _ (WalkArith.wf_i64 (by omega)) (WalkArith.wf_i64 (by omega)) hne (HL0.out _)
    .intro x1 x2 cw kl y1 y2 w2 cnt2 hkey hlk hv hat hrg2 hlt2 hg2 hs2 hen
     obtain ⟨⟨x1',x2'⟩,hx,wx1,wx2,rfl⟩:=pairK.inv hkey;simp [aOu] at hx
     obtain ⟨rfl,rfl⟩:=hx;obtain ⟨c',hc',hy,wc⟩:=plainElem_int_inv underlying3 hv;injection hc' with _ hc'
     subst hc'
     have hM:mOf ports ports.length 0 x1 x2=cw:=by
      have h1:=(HM2.out.2 x1 x2 wx1 wx2).1;have hy1:y1 = .lit (.int .i64 cw):=congrArg Prod.fst hy;rw [hat,hy1] at h1;simp at h1
      exact h1.symm
     have hMne:mOf ports ports.length 0 x1 x2≠0:=by
      have h1:=(HM2.out.2 x1 x2 wx1 wx2).2;rw [<- h1];exact has_true_of_atKey (y:=y1) hat
     have HB2:Bel w w2:=HB.grown hg2 (fun k hk=>by injection hk with hk;omega)
     have HB3:=HB2.alloc (.cells #[.int .i64 x1,.int .i64 x2] 149);have HR3:=aA0 (hrg2.alloc (.cells #[.int .i64 x1,.int .i64 x2] 149));have hlook:=aGj.look pairK underlying183 (⟨HR3.out.owns,HM2.out⟩:aGj prog 149 3 _ _ _ _ _) (aXu _) wx2 wx1;unfold aOu at hlook hen;dsimp only at hlook hen;have HMM:=aA0 hM;have HME:=aA0 hMne;have HLT:=aA0 hlt2;have HLKK:=aA0 hlk;have hrl:=HR3.out.lt;clear hM hMne hkey hv hat hrg2 hg2 hy hlt2 hlk;generalize hmx:mOf ports ports.length 0 x2 x1=mx at *;have HMX:=aA0 hmx;clear hmx
     by_cases he:mx=cw
     .have heb:(mx != cw)=false:=by simpa using he
      have HE:=aA0 he;clear he
      go_wp2_with fail
      go_roundg cnt2
      case rel =>
       refine ⟨_,cnt2,rfl,HR3,?_,HB3⟩
       intro a b wa wb hne hlf
       rw [Bool.and_eq_false_iff] at hlf
       rcases hlf with hlf | hlf
       .exact HI.out a b wa wb hne hlf
       .simp at hlf
        have:=WideAt.sameKey_eq hlf;obtain ⟨rfl,rfl⟩:=bB4 pairK wa wb wx1 wx2 this;rw [HMX.out,HE.out,HMM.out]
      case measure=>exact HLT.out
     .have heb:(mx != cw)=true:=by simpa using he
      have HF:Hid (bAp ports=false):=aLi fun h=>by
       have:=HSM.out.1 h x1 x2 HME.out;rw [HMX.out,HMM.out] at this;exact he this
      clear he
      go_wp2_with fail
      go_ret;exact ⟨aA2 HF.out.symm,HB3⟩
theorem aNj (a b:Int):∃ m,(if b<a then b else a)=m/\m=min a b:=⟨_,rfl,by split <;> omega⟩
theorem aJo (a b:Int):∃ m,(if a<b then b else a)=m/\m=max a b:=⟨_,rfl,by split <;> omega⟩
theorem aXn (a:Int) (w:World):Calls prog 207 #[.int .i64 a] w fun e w'=>e = .returned (.bool (a != 0))/\w=w':=by
 go_enter func207,ntmps207;go_wp2;go_ret;exact ⟨rfl,rfl⟩
theorem aMz (A:Option Addr) (n c:Nat) (l:List Int) (w:World) (h:aBm w A n l) (hl:n<=1000) :
  Calls prog 205 #[.slice A n c] w fun e w'=>e = .returned (.int .i64 (aD8 l))/\w=w':=by
 obtain rfl:=h.1;have H:=aA0 h;clear h;go_enter func205,ntmps205
 go_wp2_with fail
 go_loopg [3,8] l.length (fun g cv iv wr=>∃ (k:Nat) (z:Int),k+g=l.length/\0<=z/\z<=k/\Hid (z+aD8 (l.drop k)=aD8 l)/\cv = .int .i64 z/\iv = .int .i64 k/\w=wr)
 case atStart=>exact ⟨0,0,by omega,by omega,by omega,by show _=_;simp,rfl,rfl,rfl⟩
 case round =>
  obtain ⟨k,z,hk,hz0,hz1,HZ,rfl,rfl,rfl⟩:=hrel
  by_cases hlt:k<l.length
  .obtain ⟨b,o,rfl,hb,hc⟩:=H.out.at_ k hlt
   have hstep:Hid (aD8 (l.drop k)=(if l[k]=0 then 0 else 1)+aD8 (l.drop (k+1))):=by
    show aD8 (l.drop k)=_
    rw [List.drop_eq_getElem_cons hlt,aMy]
   by_cases h0:l[k]=0
   .have hz:(l[k] != 0)=false:=by simpa using h0
    have HZ2:Hid (z+aD8 (l.drop (k+1))=aD8 l):=by show _=_;rw [<- HZ.out,hstep.out,if_pos h0];omega
    clear h0
    go_wp2_with fail
    go_roundg (gk-1)
    case rel=>exact ⟨k+1,z,by omega,by omega,by omega,HZ2,rfl,by go_num,rfl⟩
    case measure=>omega
   .have hz:(l[k] != 0)=true:=by simpa using h0
    have HZ2:Hid (z+1+aD8 (l.drop (k+1))=aD8 l):=by show _=_;rw [<- HZ.out,hstep.out,if_neg h0];omega
    clear h0
    go_wp2_with fail
    go_roundg (gk-1)
    case rel=>exact ⟨k+1,z+1,by omega,by omega,by omega,HZ2,rfl,by go_num,rfl⟩
    case measure=>omega
  .go_wp2_with fail
   go_ret;refine ⟨aA5 ?_,rfl⟩
   have:=HZ.out;rw [List.drop_eq_nil_of_le (by omega)] at this
   simpa [aD8] using this
theorem aZ5 (A:Option Addr) (n c:Nat) (l:List Int) (w:World) (h:aBm w A n l) (hl:n<=1000) :
  Calls prog 208 #[.slice A n c] w fun e w'=>e = .returned (.tuple #[.int .i64 (bAs l).1,.int .i64 (bAs l).2])/\w=w':=by
 obtain rfl:=h.1;have H:=aA0 h;clear h;go_enter func208,ntmps208
 go_wp2_with fail
 go_loopg [2,3,8] l.length (fun g av sv iv wr=>∃ (k:Nat) (a s:Int),k+g=l.length/\Hid (aJz (l.drop k) a s=bAs l)/\av = .int .i64 a/\sv = .int .i64 s/\iv = .int .i64 k/\w=wr)
 case atStart=>exact ⟨0,_,_,by omega,rfl,rfl,rfl,rfl,rfl⟩
 case round =>
  obtain ⟨k,a,s,hk,HZ,rfl,rfl,rfl,rfl⟩:=hrel
  by_cases hlt:k<l.length
  .obtain ⟨b,o,rfl,hb,hc⟩:=H.out.at_ k hlt
   have hstep:Hid (aJz (l.drop k) a s=if a<l[k] then aJz (l.drop (k+1)) l[k] a else aJz (l.drop (k+1)) a (max s l[k])):=by
    show aJz (l.drop k) a s=_
    rw [List.drop_eq_getElem_cons hlt];rfl
   obtain ⟨m,hm,hm'⟩:=aJo s l[k];have HM:=aA0 hm';clear hm'
   by_cases h0:a<l[k]
   .have hd:decide (a<l[k])=true:=by simpa using h0
    have HZ2:Hid (aJz (l.drop (k+1)) l[k] a=bAs l):=by show _=_;rw [<- HZ.out,hstep.out,if_pos h0]
    clear h0
    go_wp2_with fail
    go_roundg (gk-1)
    case rel=>exact ⟨k+1,l[k],a,by omega,HZ2,rfl,rfl,by go_num,rfl⟩
    case measure=>omega
   .have hd:decide (a<l[k])=false:=by simpa using h0
    have HZ2:Hid (aJz (l.drop (k+1)) a m=bAs l):=by show _=_;rw [<- HZ.out,hstep.out,if_neg h0,HM.out]
    clear h0
    go_wp2_with fail
    go_roundg (gk-1)
    case rel=>exact ⟨k+1,a,m,by omega,HZ2,rfl,rfl,by go_num,rfl⟩
    case measure=>omega
  .go_wp2_with fail
   go_ret2
   have hz:=HZ.out;rw [List.drop_eq_nil_of_le (by omega)] at hz
   exact ⟨aFj hz.symm,rfl⟩
def aEx:List Int->(Int->Bool)->Int->Int
 | [],_,_ => -1
 | a :: l,f,i=>if f a then i else aEx l f (i+1)
theorem aTr (l:List Int):∀ i,aEx l (fun a=>a != 0) i=aE5 l i:=by
 induction l with
 | nil=>intro i;rfl
 | cons a l ih =>
  intro i
  simp only [aEx,aE5]
  by_cases h:a=0
  .simp [h,ih]
  .simp [h]
theorem aXq (l:List Int) (x:Int):∀ i,0<=i->(0<=aEx l (fun a=>x==a) i↔x∈l):=by
 induction l with
 | nil=>intro i _;simp [aEx]
 | cons a l ih =>
  intro i hi
  simp only [aEx]
  by_cases h:x=a
  .simp [h,hi]
  .simp [h,ih (i+1) (by omega)]
theorem aXt (A:Option Addr) (n c:Nat) (l:List Int) (x:Int) (w:World) (h:aBm w A n l) (hl:n<=1000) :
  Calls prog 214 #[.slice A n c,.int .i64 x] w fun e w'=>e = .returned (.int .i64 (aEx l (fun a=>x==a) 0))/\w=w':=by
 obtain rfl:=h.1;have H:=aA0 h;clear h;go_enter func214,ntmps214
 go_wp2_with fail
 go_loopg [8] l.length (fun g iv wr=>∃ (k:Nat),k+g=l.length/\Hid (aEx (l.drop k) (fun a=>x==a) k=aEx l (fun a=>x==a) 0)/\iv = .int .i64 k/\w=wr)
 case atStart=>exact ⟨0,by omega,rfl,rfl,rfl⟩
 case round =>
  obtain ⟨k,hk,HZ,rfl,rfl⟩:=hrel
  by_cases hlt:k<l.length
  .obtain ⟨b,o,rfl,hb,hc⟩:=H.out.at_ k hlt
   have hstep:Hid (aEx (l.drop k) (fun a=>x==a) k=if (x==l[k])=true then (k:Int) else aEx (l.drop (k+1)) (fun a=>x==a) ((k:Int)+1)):=by
    show aEx (l.drop k) (fun a=>x==a) k=_
    rw [List.drop_eq_getElem_cons hlt];rfl
   cases h0:(x==l[k]) with
   | true =>
    have HZ2:Hid ((k:Int)=aEx l (fun a=>x==a) 0):=by show _=_;rw [<- HZ.out,hstep.out,if_pos h0]
    go_wp2_with fail
    go_ret;exact ⟨aA5 HZ2.out,rfl⟩
   | false =>
    have HZ2:Hid (aEx (l.drop (k+1)) (fun a=>x==a) ((k+1:Nat):Int)=aEx l (fun a=>x==a) 0):=by show _=_;rw [<- HZ.out,hstep.out,if_neg (by rw [h0];decide)];rfl
    go_wp2_with fail
    go_roundg (gk-1)
    case rel=>exact ⟨k+1,by omega,HZ2,by go_num,rfl⟩
    case measure=>omega
  .go_wp2_with fail
   go_ret;have hz:=HZ.out;rw [List.drop_eq_nil_of_le (by omega)] at hz
   exact ⟨aA5 hz,rfl⟩
theorem aLn (A:Option Addr) (n c:Nat) (l:List Int) (x:Int) (w:World) (h:aBm w A n l) (hl:n<=1000) :
  Calls prog 213 #[.slice A n c,.int .i64 x] w fun e w'=>e = .returned (.bool (decide (x∈l)))/\w=w':=by
 obtain rfl:=h.1;have H:=aA0 h;clear h
 have HF:Hid (decide (x∈l)=decide (0<=aEx l (fun a=>x==a) 0)):=by
  show decide (x∈l)=_
  rw [Bool.eq_iff_iff];simp [aXq l x 0 (by omega)]
 go_enter func213,ntmps213
 go_wp2_with (go_at_call 214;refine (aXt _ _ _ l _ _ H.out hl).mono ?_;rintro e w' ⟨rfl,rfl⟩)
 go_ret;exact ⟨aA2 HF.out.symm,rfl⟩
theorem bBl (A:Option Addr) (n c:Nat) (l:List Int) (w:World) (h:aBm w A n l) (hl:n<=1000) :
  Calls prog 209 #[.slice A n c] w fun e w'=>e = .returned (.int .i64 (bA5 l))/\w=w':=by
 obtain rfl:=h.1;have H:=aA0 h;clear h;have hcl:=aQ6 l 0;go_enter func209,ntmps209
 go_wp2_with fail
 go_loopg [3] (aL0 l 0) (fun g rv wr=>∃ (k:Int),0<=k/\k+g=aL0 l 0/\aL0 l k<=g/\Hid (aIa l g k=bA5 l)/\rv = .int .i64 k/\w=wr)
 case atStart=>exact ⟨0,by omega,by omega,Nat.le_refl _,rfl,rfl,rfl⟩
 case round =>
  obtain ⟨k,hk0,hk,hg,HZ,rfl,rfl⟩:=hrel
  by_cases hm:k∈l
  .have hc:=aMe hm
   obtain ⟨g,rfl⟩:∃ g,gk=g+1:=⟨gk-1,by omega⟩
   have HZ2:Hid (aIa l g (k+1)=bA5 l):=by
    have:=HZ.out;simp only [aIa] at this
    rw [if_pos hm] at this;exact this
   have hd:decide (k∈l)=true:=decide_eq_true hm;have hk6:k<=1000000:=by omega
   clear hm
   go_wp2_with (go_at_call 213;refine (aLn _ _ _ l _ _ H.out hl).mono ?_;rintro e w' ⟨rfl,rfl⟩;rw [hd])
   go_roundg g
   case rel=>exact ⟨k+1,by omega,by omega,by omega,HZ2,rfl,rfl⟩
   case measure=>omega
  .have HZ2:Hid (k=bA5 l):=by
    have:=HZ.out;cases gk with
    | zero=>exact this
    | succ g=>simp only [aIa] at this;rw [if_neg hm] at this;exact this
   have hd:decide (k∈l)=false:=decide_eq_false hm;clear hm
   go_wp2_with (go_at_call 213;refine (aLn _ _ _ l _ _ H.out hl).mono ?_;rintro e w' ⟨rfl,rfl⟩;rw [hd])
   go_ret;exact ⟨aA5 HZ2.out,rfl⟩
theorem aQi (f:FuncId) (p:Int->Bool) (hf:∀ a w,Calls prog f #[.int .i64 a] w fun e w'=>e = .returned (.bool (p a))/\w=w') (hcall:∀ a w,(callFunc f #[a]).run prog w = .ok (.enter f #[a]) w)
  (A:Option Addr) (n c:Nat) (l:List Int) (w:World) (h:aBm w A n l) (hl:n<=1000) :
  Calls prog 206 #[.slice A n c,.func (.func f) #[] #[]] w fun e w'=>e = .returned (.int .i64 (aEx l p 0))/\w=w':=by
 obtain rfl:=h.1;have H:=aA0 h;clear h;have HF:=aA0 hf;clear hf;go_enter func206,ntmps206
 go_wp2_with fail
 go_loopg [8] l.length (fun g iv wr=>∃ (k:Nat),k+g=l.length/\Hid (aEx (l.drop k) p k=aEx l p 0)/\iv = .int .i64 k/\w=wr)
 case atStart=>exact ⟨0,by omega,rfl,rfl,rfl⟩
 case round =>
  obtain ⟨k,hk,HZ,rfl,rfl⟩:=hrel
  by_cases hlt:k<l.length
  .obtain ⟨b,o,rfl,hb,hc⟩:=H.out.at_ k hlt
   have hstep:Hid (aEx (l.drop k) p k=if p l[k]=true then (k:Int) else aEx (l.drop (k+1)) p ((k:Int)+1)):=by
    show aEx (l.drop k) p k=_
    rw [List.drop_eq_getElem_cons hlt];rfl
   cases h0:p l[k] with
   | true =>
    have HZ2:Hid ((k:Int)=aEx l p 0):=by show _=_;rw [<- HZ.out,hstep.out,if_pos h0]
    go_wp2_with (((with_reducible refine (HF.out _ _).mono ?_);rintro e w' ⟨rfl,rfl⟩;rw [h0]))
    go_ret;exact ⟨aA5 HZ2.out,rfl⟩
   | false =>
    have HZ2:Hid (aEx (l.drop (k+1)) p ((k+1:Nat):Int)=aEx l p 0):=by show _=_;rw [<- HZ.out,hstep.out,if_neg (by rw [h0];decide)];rfl
    go_wp2_with (((with_reducible refine (HF.out _ _).mono ?_);rintro e w' ⟨rfl,rfl⟩;rw [h0]))
    go_roundg (gk-1)
    case rel=>exact ⟨k+1,by omega,HZ2,by go_num,rfl⟩
    case measure=>omega
  .go_wp2_with fail
   go_ret;have hz:=HZ.out;rw [List.drop_eq_nil_of_le (by omega)] at hz
   exact ⟨aA5 hz,rfl⟩
theorem aPf (A:Option Addr) (n c:Nat) (l:List Int) (x:Int) (w:World) (h:aBm w A n l) (hl:n<=1000) :
  Calls prog 154 #[.slice A n c,.int .i64 x] w fun e w'=>e = .returned (.bool (decide (x∈l)))/\w=w':=by
 obtain rfl:=h.1;have H:=aA0 h;clear h;go_enter func154,ntmps154
 go_wp2_with fail
 go_loopg [5] l.length (fun g iv wr=>∃ (k:Nat),k+g=l.length/\Hid (decide (x∈l.drop k)=decide (x∈l))/\iv = .int .i64 k/\w=wr)
 case atStart=>exact ⟨0,by omega,rfl,rfl,rfl⟩
 case round =>
  obtain ⟨k,hk,HZ,rfl,rfl⟩:=hrel
  by_cases hlt:k<l.length
  .obtain ⟨b,o,rfl,hb,hc⟩:=H.out.at_ k hlt
   have hstep:Hid (decide (x∈l.drop k)=((l[k]==x)||decide (x∈l.drop (k+1)))):=by
    show decide (x∈l.drop k)=_
    rw [List.drop_eq_getElem_cons hlt,Bool.eq_iff_iff];simp only [List.mem_cons,decide_eq_true_eq,Bool.or_eq_true,beq_iff_eq]
    exact ⟨fun h=>h.elim (fun e => .inl e.symm) .inr,fun h=>h.elim (fun e => .inl e.symm) .inr⟩
   cases h0:(l[k]==x) with
   | true =>
    have HZ2:Hid (true=decide (x∈l)):=by show _=_;rw [<- HZ.out,hstep.out,h0];rfl
    go_wp2_with fail
    go_ret;exact ⟨aA2 HZ2.out,rfl⟩
   | false =>
    have HZ2:Hid (decide (x∈l.drop (k+1))=decide (x∈l)):=by show _=_;rw [<- HZ.out,hstep.out,h0];rfl
    go_wp2_with fail
    go_roundg (gk-1)
    case rel=>exact ⟨k+1,by omega,HZ2,by go_num,rfl⟩
    case measure=>omega
  .go_wp2_with fail
   go_ret;have hz:=HZ.out;rw [List.drop_eq_nil_of_le (by omega)] at hz
   exact ⟨aA2 (by simpa using hz),rfl⟩
theorem aUs (A:Option Addr) (n c:Nat) (l:List Int) (op:Int) (w:World) (h:aBm w A n l) (hl:n<=1000) (h1:20<=op) (h2:op<=29) (hn:∀ x∈l,Num x) :
  Calls prog 182 #[.int .i64 op,.slice A n c] w fun e w'=>e = .returned (.int .i64 (aJ2 op l))/\w=w':=by
 obtain rfl:=h.1;have H:=aA0 h;clear h;have HN:=aA0 hn;clear hn;have hcase:op=20∨op=21∨op=22∨op=23∨op=24∨op=25∨op=26∨op=27∨op=28∨op=29:=by omega
 clear h1 h2
 rcases hcase with h | h | h | h | h | h | h | h | h | h
 .subst h
  go_enter func182,ntmps182
  go_wp2_with (first
   | (go_at_call 205;refine (aMz _ _ _ l _ H.out hl).mono ?_;rintro e w' ⟨rfl,rfl⟩)
   | (go_at_call 181;refine (aDv _ _).mono ?_;rintro e w' ⟨rfl,rfl⟩))
  go_ret;exact ⟨rfl,rfl⟩
 .subst h
  go_enter func182,ntmps182
  go_wp2_with (first
   | (go_at_call 205;refine (aMz _ _ _ l _ H.out hl).mono ?_;rintro e w' ⟨rfl,rfl⟩)
   | (go_at_call 181;refine (aDv _ _).mono ?_;rintro e w' ⟨rfl,rfl⟩))
  go_ret;exact ⟨rfl,rfl⟩
 .subst h
  go_enter func182,ntmps182
  go_wp2_with (first
   | (go_at_call 205;refine (aMz _ _ _ l _ H.out hl).mono ?_;rintro e w' ⟨rfl,rfl⟩))
  go_ret;exact ⟨rfl,rfl⟩
 .subst h
  have HF:Hid (aEx l (fun a=>a != 0) 0=aJ2 23 l):=aTr l 0;go_enter func182,ntmps182
  go_wp2_with (go_at_call 206;refine (aQi 207 (fun a=>a != 0) (fun a w=>aXn a w) (fun _ _=>by kernel_rfl) _ _ _ l _ H.out hl).mono ?_;rintro e w' ⟨rfl,rfl⟩)
  go_ret;exact ⟨aA5 HF.out,rfl⟩
 .subst h
  go_enter func182,ntmps182
  go_wp2_with fail
  go_loopg [5,42] l.length (fun g mv iv wr=>∃ (k:Nat) (z:Int),k+g=l.length/\Hid ((l.drop k).foldl min z=aJ2 24 l)/\mv = .int .i64 z/\iv = .int .i64 k/\w=wr)
  case atStart=>exact ⟨0,_,by omega,rfl,rfl,rfl,rfl⟩
  case round =>
   obtain ⟨k,z,hk,HZ,rfl,rfl,rfl⟩:=hrel
   by_cases hlt:k<l.length
   .obtain ⟨b,o,rfl,hb,hc⟩:=H.out.at_ k hlt
    obtain ⟨m,hm,hm'⟩:=aNj z l[k]
    have HZ2:Hid ((l.drop (k+1)).foldl min m=aJ2 24 l):=by
     have:=HZ.out;rw [List.drop_eq_getElem_cons hlt,List.foldl_cons,<- hm'] at this;exact this
    clear hm'
    go_wp2_with fail
    go_roundg (gk-1)
    case rel=>exact ⟨k+1,m,by omega,HZ2,rfl,by go_num,rfl⟩
    case measure=>omega
   .go_wp2_with fail
    go_ret;have hz:=HZ.out;rw [List.drop_eq_nil_of_le (by omega)] at hz
    exact ⟨aA5 hz,rfl⟩
 .subst h
  go_enter func182,ntmps182
  go_wp2_with (first
   | (go_at_call 208;refine (aZ5 _ _ _ l _ H.out hl).mono ?_;rintro e w' ⟨rfl,rfl⟩))
  go_ret;exact ⟨rfl,rfl⟩
 .subst h
  go_enter func182,ntmps182
  go_wp2_with fail
  go_loopg [10,63] l.length (fun g sv iv wr=>∃ (k:Nat) (z:Int),k+g=l.length /\ -(1073741824*k)<=z/\z<=1073741824*k/\Hid (aUf ((l.drop k).foldl (·+·) z)=aJ2 26 l)/\sv = .int .i64 z/\iv = .int .i64 k/\w=wr)
  case atStart=>exact ⟨0,0,by omega,by omega,by omega,rfl,rfl,rfl,rfl⟩
  case round =>
   obtain ⟨k,z,hk,hz1,hz2,HZ,rfl,rfl,rfl⟩:=hrel
   by_cases hlt:k<l.length
   .obtain ⟨b,o,rfl,hb,hc⟩:=H.out.at_ k hlt
    have hx:=HN.out l[k] (List.getElem_mem _);unfold Num at hx;obtain ⟨hx1,hx2⟩:=hx
    have HZ2:Hid (aUf ((l.drop (k+1)).foldl (·+·) (z+l[k]))=aJ2 26 l):=by
     have:=HZ.out;rw [List.drop_eq_getElem_cons hlt,List.foldl_cons] at this;exact this
    go_wp2_with fail
    go_roundg (gk-1)
    case rel=>exact ⟨k+1,z+l[k],by omega,by omega,by omega,HZ2,rfl,by go_num,rfl⟩
    case measure=>omega
   .have hz:=HZ.out
    rw [List.drop_eq_nil_of_le (by omega)] at hz
    have HZ2:=aA0 hz;clear hz
    go_wp2_with (go_at_call 183;refine (aDn _ _).mono ?_;rintro e w' ⟨rfl,rfl⟩)
    go_ret;exact ⟨aA5 HZ2.out,rfl⟩
 .subst h
  go_enter func182,ntmps182
  go_wp2_with (first
   | (go_at_call 209;refine (bBl _ _ _ l _ H.out hl).mono ?_;rintro e w' ⟨rfl,rfl⟩))
  go_ret;exact ⟨rfl,rfl⟩
 .subst h
  go_enter func182,ntmps182
  go_wp2_with (first
   | (go_at_call 208;refine (aZ5 _ _ _ l _ H.out hl).mono ?_;rintro e w' ⟨rfl,rfl⟩))
  go_ret;exact ⟨rfl,rfl⟩
 .subst h
  rcases l with _ | ⟨x,l⟩
  .go_enter func182,ntmps182
   go_wp2_with fail
   go_ret;exact ⟨rfl,rfl⟩
  .obtain ⟨b,o,rfl,hb,hc⟩:=H.out.at_ 0 (by simp)
   have hc':w.cell? ⟨b,o,none⟩=some (.int .i64 x):=by simpa using hc
   clear hc;have hne:(((x :: l).length:Int)==0)=false:=by simp;omega
   go_enter func182,ntmps182
   go_wp2_with fail
   go_ret;exact ⟨rfl,rfl⟩
structure Gathered (l:List Int) (k:Nat) (yes first least great second sum:Int):Prop where
 yes:yes+aD8 (l.drop k)=aD8 l
 first:(first<0->first = -1/\aE5 (l.drop k) k=aE5 l 0)/\(0<=first->first=aE5 l 0)
 least:(l.drop k).foldl min least=minF l
 two:aJz (l.drop k) great second=bAs l
 ord:second<=great
 sum:(l.drop k).foldl (·+·) sum=sumF l
theorem aQh (l:List Int):Gathered l 0 0 (-1) 1073741824 (-1073741824) (-1073741824) 0 :=
 ⟨by simp,⟨fun _=>⟨rfl,rfl⟩,fun h=>by omega⟩,rfl,rfl,by omega,rfl⟩
theorem aQg {l:List Int} {k:Nat} {yes first least great second sum:Int} (h:Gathered l k yes first least great second sum) (hk:k<l.length) :
  Gathered l (k+1) (if l[k]=0 then yes else yes+1) (if l[k]≠0/\first<0 then (k:Int) else first) (min least l[k]) (max great l[k]) (max second (min great l[k])) (sum+l[k]):=by
 have hd:=List.drop_eq_getElem_cons hk;obtain ⟨h1,⟨h2a,h2b⟩,h3,h4,h5,h6⟩:=h;rw [hd] at h1 h3 h4 h6;rw [aMy] at h1;refine ⟨?_,?_,?_,?_,?_,?_⟩
 .split <;> simp_all <;> omega
 .constructor
  .intro hf
   split at hf
   .omega
   .rename_i hc
    rw [if_neg hc];obtain ⟨e1,e2⟩:=h2a hf;refine ⟨e1,?_⟩
    rw [hd] at e2;simp only [aE5] at e2
    rw [if_neg (by intro h0;exact hc ⟨h0,hf⟩)] at e2
    exact e2
  .intro hf
   split
   .rename_i hc
    obtain ⟨e1,e2⟩:=h2a hc.2;rw [hd] at e2;simp only [aE5] at e2
    rw [if_pos hc.1] at e2;exact e2
   .rename_i hc
    rw [if_neg hc] at hf;exact h2b hf
 .rw [List.foldl_cons] at h3;exact h3
 .simp only [aJz] at h4
  by_cases hg:great<l[k]
  .rw [if_pos hg] at h4
   rw [show max great l[k]=l[k] by omega,show max second (min great l[k])=great by omega]
   exact h4
  .rw [if_neg hg] at h4
   rw [show max great l[k]=great by omega,show max second (min great l[k])=max second l[k] by omega]
   exact h4
 .omega
 .rw [List.foldl_cons] at h6;exact h6
theorem aUb (A:Option Addr) (n c:Nat) (l:List Int) (op:Int) (w:World) (h:aBm w A n l) (hl:n<=1000) (h1:20<=op) (h2:op<=29) (hn:∀ x∈l,Num x) :
  Calls prog 135 #[.int .i64 op,.slice A n c] w fun e w'=>e = .returned (.int .i64 (aJ2 op l))/\w=w':=by
 obtain rfl:=h.1;have H:=aA0 h;clear h;have HN:=aA0 hn;clear hn;have HC:Hid (op=20∨op=21∨op=22∨op=23∨op=24∨op=25∨op=26∨op=27∨op=28∨op=29):=by show _∨_;omega
 clear h1 h2;go_enter func135,ntmps135
 go_wp2_with fail
 go_loopg [5,6,7,8,9,10,11] l.length (fun g yv fv lv gv sv mv iv wr=>∃ (k:Nat) (yes first least great second sum:Int),k+g=l.length/\0<=yes/\yes<=k /\ -(1073741824*k)<=sum/\sum<=1073741824*k/\Hid (Gathered l k yes first least great second sum) /\
  yv = .int .i64 yes/\fv = .int .i64 first/\lv = .int .i64 least/\gv = .int .i64 great/\sv = .int .i64 second/\mv = .int .i64 sum/\iv = .int .i64 k/\w=wr)
 case atStart=>exact ⟨0,0,-1,_,_,_,0,by omega,by omega,by omega,by omega,by omega,aQh l,rfl,rfl,rfl,rfl,rfl,rfl,rfl,rfl⟩
 case round =>
  obtain ⟨k,yes,first,least,great,second,sum,hk,hy1,hy2,hs1,hs2,HG,rfl,rfl,rfl,rfl,rfl,rfl,rfl,rfl⟩:=hrel
  by_cases hlt:k<l.length
  .obtain ⟨b,o,rfl,hb,hc⟩:=H.out.at_ k hlt
   have HS:=aA0 (aQg HG.out hlt);have hx:=HN.out l[k] (List.getElem_mem _);unfold Num at hx;obtain ⟨hx1,hx2⟩:=hx;generalize l[k]=x at *;obtain ⟨m1,hm1,hm1'⟩:=aNj least x;obtain ⟨m2,hm2,hm2'⟩:=aNj great x;obtain ⟨m3,hm3,hm3'⟩:=aJo second m2;obtain ⟨m4,hm4,hm4'⟩:=aJo great x;have HS2:=HS.out;rw [<- hm1',<- hm2',<- hm3',<- hm4'] at HS2;have HS3:=aA0 HS2;clear HS2 HS hm1' hm2' hm3' hm4'
   by_cases h0:x=0
   .have hz:(x != 0)=false:=by simpa using h0
    have HS4:Hid (Gathered l (k+1) yes first m1 m4 m3 (sum+x)):=by
     have:=HS3.out;rw [if_pos h0,if_neg (by simp [h0])] at this
     exact this
    clear h0
    go_wp2_with fail
    go_roundg (gk-1)
    case rel=>exact ⟨k+1,yes,first,m1,m4,m3,sum+x,by omega,by omega,by omega,by omega,by omega,HS4,rfl,rfl,rfl,rfl,rfl,rfl,by go_num,rfl⟩
    case measure=>omega
   .have hz:(x != 0)=true:=by simpa using h0
    by_cases hf:first<0
    .have hfd:decide (first<0)=true:=by simpa using hf
     have HS4:Hid (Gathered l (k+1) (yes+1) k m1 m4 m3 (sum+x)):=by
      have:=HS3.out;rw [if_neg h0,if_pos ⟨h0,hf⟩] at this;exact this
     clear h0 hf
     go_wp2_with fail
     go_roundg (gk-1)
     case rel=>exact ⟨k+1,yes+1,k,m1,m4,m3,sum+x,by omega,by omega,by omega,by omega,by omega,HS4,rfl,rfl,rfl,rfl,rfl,rfl,by go_num,rfl⟩
     case measure=>omega
    .have hfd:decide (first<0)=false:=by simpa using hf
     have HS4:Hid (Gathered l (k+1) (yes+1) first m1 m4 m3 (sum+x)):=by
      have:=HS3.out;rw [if_neg h0,if_neg (fun h=>hf h.2)] at this;exact this
     clear h0 hf
     go_wp2_with fail
     go_roundg (gk-1)
     case rel=>exact ⟨k+1,yes+1,first,m1,m4,m3,sum+x,by omega,by omega,by omega,by omega,by omega,HS4,rfl,rfl,rfl,rfl,rfl,rfl,by go_num,rfl⟩
     case measure=>omega
  .obtain ⟨g1,⟨g2a,g2b⟩,g3,g4,g5,g6⟩:=HG.out
   rw [List.drop_eq_nil_of_le (by omega)] at g1 g2a g3 g4 g6
   have e1:yes=aD8 l:=by simpa [aD8] using g1
   have e2:first=aE5 l 0:=by
    by_cases hf:first<0
    .obtain ⟨a,b⟩:=g2a hf;rw [a,<- b];rfl
    .exact g2b (by omega)
   have e3:least=minF l:=g3;have e4:bAs l=(great,second):=g4.symm;have e5:sum=sumF l:=g6;clear g1 g2a g2b g3 g4 g5 g6 HG;have E1:=aA0 e1;have E2:=aA0 e2;have E3:=aA0 e3;have E4:=aA0 e4;have E5:=aA0 e5;clear e1 e2 e3 e4 e5;have hcl:=aQ6 l 0
   rcases HC.out with h | h | h | h | h | h | h | h | h | h
   case inr.inr.inr.inr.inr.inr.inr.inl =>
    subst h
    go_wp2_with fail
    go_loopg [12] (aL0 l 0) (fun g rv wr=>∃ (q:Int),0<=q/\q+g=aL0 l 0/\aL0 l q<=g/\Hid (aIa l g q=bA5 l)/\rv = .int .i64 q/\w=wr)
    case atStart=>exact ⟨0,by omega,by omega,Nat.le_refl _,rfl,rfl,rfl⟩
    case round =>
     obtain ⟨q,hq0,hq,hg,HZ,rfl,rfl⟩:=hrel
     by_cases hm:q∈l
     .have hc:=aMe hm
      obtain ⟨g,rfl⟩:∃ g,gk=g+1:=⟨gk-1,by omega⟩
      have HZ2:Hid (aIa l g (q+1)=bA5 l):=by
       have:=HZ.out;simp only [aIa] at this
       rw [if_pos hm] at this;exact this
      have hd:decide (q∈l)=true:=decide_eq_true hm;have hk6:q<=1000000:=by omega
      clear hm
      go_wp2_with (go_at_call 154;refine (aPf _ _ _ l _ _ H.out hl).mono ?_;rintro e w' ⟨rfl,rfl⟩;rw [hd])
      go_roundg g
      case rel=>exact ⟨q+1,by omega,by omega,by omega,HZ2,rfl,rfl⟩
      case measure=>omega
     .have HZ2:Hid (q=bA5 l):=by
       have:=HZ.out;cases gk with
       | zero=>exact this
       | succ g=>simp only [aIa] at this;rw [if_neg hm] at this;exact this
      have hd:decide (q∈l)=false:=decide_eq_false hm;clear hm
      go_wp2_with (go_at_call 154;refine (aPf _ _ _ l _ _ H.out hl).mono ?_;rintro e w' ⟨rfl,rfl⟩;rw [hd])
      go_ret;exact ⟨aA5 HZ2.out,rfl⟩
   case inr.inr.inr.inr.inr.inr.inr.inr.inr =>
    subst h;clear E1 E2 E3 E4 E5
    by_cases h0:l.length=0
    .have HZ:Hid ((0:Int)=aJ2 29 l):=by show _=_;rw [List.length_eq_zero_iff.1 h0];rfl
     have hb0:((l.length:Int)==0)=true:=by simp;exact List.length_eq_zero_iff.1 h0
     go_wp2_with fail
     go_ret;exact ⟨aA5 HZ.out,rfl⟩
    .obtain ⟨b,o,rfl,hb,hc⟩:=H.out.at_ 0 (by omega)
     have HZ:Hid (l[0]'(by omega)=aJ2 29 l):=by
      show _=_
      cases l with
      | nil=>simp at h0
      | cons x l=>rfl
     have hc':w.cell? ⟨b,o,none⟩=some (.int .i64 (l[0]'(by omega))):=by simpa using hc
     clear hc;have hb0:((l.length:Int)==0)=false:=by simp;intro hh;rw [hh] at h0;exact h0 rfl
     have hpos:0<l.length:=by omega
     generalize (l[0]'(by omega):Int)=x0 at *
     clear h0
     go_wp2_with fail
     go_ret;exact ⟨aA5 HZ.out,rfl⟩
   all_goals
    subst h
    go_wp2_with (first
     | (go_at_call 152;refine (aCf _ _).mono ?_;rintro e w' ⟨rfl,rfl⟩)
     | (go_at_call 153;refine (aIi _ _).mono ?_;rintro e w' ⟨rfl,rfl⟩))
    go_ret;refine ⟨aA5 ?_,rfl⟩
    simp only [aJ2]
    first
     | (rw [E1.out];rfl)
     | (rw [E2.out];rfl)
     | (rw [E3.out];rfl)
     | (rw [E4.out];rfl)
     | (rw [E5.out];rfl)
end Go.Proofs.YtdcjnhoabbdanaaGreatDoor

