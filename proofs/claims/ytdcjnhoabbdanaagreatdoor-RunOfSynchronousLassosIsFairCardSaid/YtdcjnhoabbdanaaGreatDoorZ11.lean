/- Merged. -/
import Derived.Test.YtdcjnhoabbdanaaGreatDoorZ09
import Derived.Test.YtdcjnhoabbdanaaGreatDoorZ10
import Derived.Laws.EntriesVeiled
set_option linter.unusedSimpArgs false
set_option linter.unnecessarySimpa false
set_option linter.unusedVariables false
set_option maxRecDepth 100000
set_option maxHeartbeats 4000000
open Go.Proofs.Tryz

namespace Go.Proofs.YtdcjnhoabbdanaaGreatDoor
open Go.RowKit
theorem aTy {n:Nat} (h:1<=n):decide (n<1)=false:=by simp;omega
theorem aTu {n:Nat} (h:1<=n):decide ((n:Int)<1)=false:=by simp;omega
theorem bA8 {n:Nat} (h:n<1):decide (n<1)=true:=by simp;omega
theorem bA1 {n:Nat} (h:n<1):decide ((n:Int)<1)=true:=by simp;omega
theorem aJ6 (v:Value) (g:Graph) (w:World) (h:aAn w v g) (hlg:aB3 g=true) :
  Calls prog 102 #[v] w fun e w'=>e = .returned (.bool (aDr g))/\Bel w w':=by
 obtain ⟨A,k,A2,k2,rfl,hI,_,_,hP,_,_⟩:=h;have HI:=aA0 (fun w' (k:Bel w w')=>aBm.keep hI k);clear hI;have HP:=aA0 (fun w' (k:Bel w w')=>aFa.keep hP k);clear hP;obtain ⟨hl1,hl2,hl3⟩:=aDd hlg;have HL3:=aA0 hl3;clear hl3 hlg;have HG:=aA0 (aW2 g);have HB:=Bel.refl (w.alloc (.cells #[.slice A g.ids.length k,.slice A2 g.ports.length k2] 29))
 by_cases hn:1<=g.ports.length/\g.ports.length<=24/\g.ids.length=g.ports.length
 .have hd1:decide (g.ids.length<1)=false:=aTy (by omega)
  have hd2:decide (24<g.ids.length)=false:=by simp;omega
  have hd3:(g.ports.length != g.ids.length)=false:=by simp;omega
  have hd3':((g.ports.length:Int) != (g.ids.length:Int))=false:=by simp;omega
  have hd1':decide ((g.ids.length:Int)<1)=false:=aTu (by omega)
  rw [decide_eq_true hn] at HG;have hn1:1<=g.ids.length:=by omega
  have hn2:g.ids.length<=24:=by omega
  clear hn;cases hi:aOp g.ids with
  | false =>
   go_enter func102,ntmps102
   go_wp2_with (go_at_call 122;refine (aHn _ _ g.ids _ (HI.out _ (aA3 HB)) (by omega)).mono ?_;rintro e w' ⟨rfl,hb⟩;rw [hi];replace HB:=HB.trans hb;clear hb)
   go_ret;exact ⟨aA2 (by rw [HG.out,hi];rfl),aA3 HB⟩
  | true =>
   have HII:=aA0 hi;clear hi;go_enter func102,ntmps102
   go_wp2_with (first
    | (go_at_call 122;refine (aHn _ _ g.ids _ (HI.out _ (aA3 HB)) (by omega)).mono ?_;rintro e w' ⟨rfl,hb⟩;rw [HII.out];replace HB:=HB.trans hb;clear hb;have q1:=aA9 HB 1 rfl;have q2:=aAy HB)
    | (go_at_call 123;refine (aR6 _ _ g.ports _ (HP.out _ (aA3 HB)) (by omega) HL3.out).mono ?_;rintro e w' ⟨rfl,hb⟩;replace HB:=HB.trans hb;clear hb))
   go_ret;exact ⟨aA2 (by rw [HG.out,HII.out];rfl),aA3 HB⟩
 .rw [decide_eq_false hn] at HG
  by_cases h1:g.ids.length<1
  .have hd1:decide (g.ids.length<1)=true:=bA8 h1
   have hd1':decide ((g.ids.length:Int)<1)=true:=bA1 h1;clear hn;go_enter func102,ntmps102
   go_wp2_with fail
   go_ret;exact ⟨aA2 (by rw [HG.out];rfl),aA3 HB⟩
  .have hd1:decide (g.ids.length<1)=false:=aTy (by omega)
   have hd1':decide ((g.ids.length:Int)<1)=false:=aTu (by omega)
   by_cases h2:24<g.ids.length
   .have hd2:decide (24<g.ids.length)=true:=by simpa using h2
    clear hn;go_enter func102,ntmps102
    go_wp2_with fail
    go_ret;exact ⟨aA2 (by rw [HG.out];rfl),aA3 HB⟩
   .have hd2:decide (24<g.ids.length)=false:=by simpa using h2
    have hd3:(g.ports.length != g.ids.length)=true:=by simp;omega
    have hd3':((g.ports.length:Int) != (g.ids.length:Int))=true:=by simp;omega
    clear hn;go_enter func102,ntmps102
    go_wp2_with fail
    go_ret;exact ⟨aA2 (by rw [HG.out];rfl),aA3 HB⟩
theorem aGk {l:List Int} {k:Nat} (h:k<l.length):aDp (l.take (k+1))=max (aDp (l.take k)) l[k]:=by
 unfold aDp;rw [List.take_succ_eq_append_getElem h,List.foldl_append];rfl
theorem aR2 (A:Option Addr) (c:Nat) (ids:List Int) (w:World) (h:aBm w A ids.length ids) (hl:ids.length<=1000) (hp:1<=ids.length) (h0:∀ i∈ids,0<=i) :
  Calls prog 125 #[.slice A ids.length c] w fun e w'=>e = .returned (.int .i64 (aDp ids))/\w=w':=by
 have H:=aA0 h;clear h;have hz:decide (ids.length<1)=false:=aTy hp;have hz':decide ((ids.length:Int)<1)=false:=aTu hp;obtain ⟨b,o,rfl,hb,hc⟩:=H.out.at_ 0 (by omega)
 have hpos:0<ids.length:=by omega
 simp only [Nat.add_zero] at hc
 have HS:Hid (aDp (ids.take 1)=ids[0]):=by
  show aDp (ids.take 1)=ids[0]
  rw [aGk (k:=0) (by omega)]
  have:=h0 ids[0] (List.getElem_mem _);simp [aDp];omega
 clear h0;go_enter func125,ntmps125;go_wp2;clear hz hz' hc
 go_loopg [3,4] (ids.length-1) (fun m s z wr=>∃ j:Nat,j<=ids.length/\m=ids.length-j/\z = .int .i64 j/\s = .int .i64 (aDp (ids.take j))/\w=wr)
 case atStart=>exact ⟨1,by omega,rfl,rfl,by rw [HS.out],rfl⟩
 case round =>
  obtain ⟨j,hj,rfl,rfl,rfl,rfl⟩:=hrel
  by_cases hlt:j<ids.length
  .have hd0:decide (j<ids.length)=true:=by simpa using hlt
   obtain ⟨b',o',e',_,hc⟩:=H.out.at_ j hlt;obtain ⟨rfl,rfl⟩:b=b'/\o=o':=by simpa using e'
   have HN:=aA0 (aGk hlt);generalize aDp (ids.take j)=G at *;obtain ⟨m,hm,hm'⟩:=aJo G ids[j];have HM:=aA0 hm';clear hm' e';go_wp2
   go_roundg (ids.length-(j+1))
   case rel=>exact ⟨j+1,by omega,rfl,by go_num,by rw [HN.out,<- HM.out],rfl⟩
   case measure=>omega
  .have hd0:decide (j<ids.length)=false:=by simpa using hlt
   go_wp2;go_ret;exact ⟨aA5 (by rw [List.take_of_length_le (by omega)]),rfl⟩
theorem aLs (v:Value) (g:Graph) (w:World) (h:aAn w v g) (hl:g.ids.length<=1000) :
  Calls prog 115 #[v] w fun e w'=>e = .returned (.int .i64 (aDp g.ids))/\Bel w w':=by
 obtain ⟨A,k,A2,k2,rfl,hI,_,_,hP,_,_⟩:=h;have H:=aA0 hI;clear hI hP;go_enter func115,ntmps115;go_wp2
 go_loopg [3,4] g.ids.length (fun m s z wr=>∃ j:Nat,j<=g.ids.length/\m=g.ids.length-j/\z = .int .i64 j/\s = .int .i64 (aDp (g.ids.take j))/\w.alloc (.cells #[.slice A g.ids.length k,.slice A2 g.ports.length k2] 29)=wr)
 case atStart=>exact ⟨0,by omega,rfl,rfl,rfl,rfl⟩
 case round =>
  obtain ⟨j,hj,rfl,rfl,rfl,rfl⟩:=hrel
  by_cases hlt:j<g.ids.length
  .have hd0:decide (j<g.ids.length)=true:=by simpa using hlt
   obtain ⟨b,o,rfl,hb,hc⟩:=H.out.at_ j hlt;have HN:=aA0 (aGk hlt);generalize aDp (g.ids.take j)=G at *;obtain ⟨m,hm,hm'⟩:=aJo G g.ids[j];have HM:=aA0 hm';clear hm';go_wp2
   go_roundg (g.ids.length-(j+1))
   case rel=>exact ⟨j+1,by omega,rfl,by go_num,by rw [HN.out,<- HM.out],rfl⟩
   case measure=>omega
  .have hd0:decide (j<g.ids.length)=false:=by simpa using hlt
   go_wp2;go_ret;exact ⟨aA5 (by rw [List.take_of_length_le (by omega)]),(Bel.refl _).alloc _⟩
def aAo (x:Var) (g:Graph) (v:Nat):Int × Int :=
 if x.kind=2 then (0,1) else if x.kind=3 then (-1,((g.ports.getD v []).length:Int)-1) else (x.lo,x.hi+x.perNode*g.ids.length+x.perID*aDp g.ids)
theorem aIs {g:Graph} (hg:GOK g):0<=aDp g.ids/\aDp g.ids<=255:=⟨aJl _,aTq _ _ (by omega) (fun x hx=>(hg.idr x hx).2)⟩
theorem aGt {a b A B:Int} (h1:0<=a) (h2:a<=A) (h3:0<=b) (h4:b<=B):0<=a*b/\a*b<=A*B :=
 ⟨Int.mul_nonneg h1 h3,Int.mul_le_mul h2 h4 h3 (by omega)⟩
theorem box3 {w wr:World} {cs ds es:Array Value} {t u s:TypeId} (h:Bel (((w.alloc (.cells cs t)).alloc (.cells ds u)).alloc (.cells es s)) wr) :
  (∀ i v,cs[i]?=some v->wr.cell? ⟨w.heap.size,i,none⟩=some v)/\(∀ i v,ds[i]?=some v->wr.cell? ⟨w.heap.size+1,i,none⟩=some v)/\(∀ i v,es[i]?=some v->wr.cell? ⟨w.heap.size+1+1,i,none⟩=some v)/\w.heap.size+1+1<wr.heap.size:=by
 have h2:=aZn (w:=w.alloc (.cells cs t)) h;simp only [World.size_alloc] at h2
 refine ⟨fun i v hv=>?_,h2.1,h2.2.1,h2.2.2⟩
 exact (h.cell (by simp;omega)).trans ((((Blk.new w cs t).alloc _).alloc _).cell i hv)
theorem box3v {w wr:World} {a0 a1 a2 a3 a4 a5 b0 b1 d0 d1 d2 d3 d4 d5:Value} {t u s:TypeId} (h:Bel (((w.alloc (.cells #[a0,a1,a2,a3,a4,a5] t)).alloc (.cells #[b0,b1] u)).alloc (.cells #[d0,d1,d2,d3,d4,d5] s)) wr) :
  (wr.cell? ⟨w.heap.size,0,none⟩=some a0/\wr.cell? ⟨w.heap.size,1,none⟩=some a1/\wr.cell? ⟨w.heap.size,2,none⟩=some a2/\wr.cell? ⟨w.heap.size,3,none⟩=some a3/\wr.cell? ⟨w.heap.size,4,none⟩=some a4/\wr.cell? ⟨w.heap.size,5,none⟩=some a5) /\
  (wr.cell? ⟨w.heap.size+1,0,none⟩=some b0/\wr.cell? ⟨w.heap.size+1,1,none⟩=some b1) /\
  (wr.cell? ⟨w.heap.size+1+1,0,none⟩=some d0/\wr.cell? ⟨w.heap.size+1+1,1,none⟩=some d1/\wr.cell? ⟨w.heap.size+1+1,2,none⟩=some d2/\wr.cell? ⟨w.heap.size+1+1,3,none⟩=some d3/\wr.cell? ⟨w.heap.size+1+1,4,none⟩=some d4/\wr.cell? ⟨w.heap.size+1+1,5,none⟩=some d5) /\
  w.heap.size<wr.heap.size/\w.heap.size+1<wr.heap.size/\w.heap.size+1+1<wr.heap.size:=by
 obtain ⟨c1,c2,c3,c4⟩:=box3 h;exact ⟨⟨c1 0 _ rfl,c1 1 _ rfl,c1 2 _ rfl,c1 3 _ rfl,c1 4 _ rfl,c1 5 _ rfl⟩,⟨c2 0 _ rfl,c2 1 _ rfl⟩,⟨c3 0 _ rfl,c3 1 _ rfl,c3 2 _ rfl,c3 3 _ rfl,c3 4 _ rfl,c3 5 _ rfl⟩,by omega,by omega,c4⟩
theorem aEa {x:Var} (h:aBu x=true):(x.kind=2/\x.lo=0/\x.hi=0/\x.perNode=0/\x.perID=0)∨(x.kind=3/\x.lo=0/\x.hi=0/\x.perNode=0/\x.perID=0)∨(x.kind=1/\(0<=x.lo/\x.lo<=4096)/\(0<=x.perNode/\x.perNode<=255)/\(0<=x.perID/\x.perID<=255) /\ -4096<=x.hi/\x.hi<=4096):=by
 unfold aBu at h;have:=of_decide_eq_true h;omega
theorem aTh (x:Var) (v2:Value) (g:Graph) (i:Int) (w:World) (h2:aAn w v2 g) (hx:aBu x=true) (hg:GOK g) :
  Calls prog 124 #[aWy x,v2,.int .i64 i] w fun e w'=>e = .returned (.tuple #[.int .i64 x.lo,.int .i64 (x.hi+x.perNode*g.ids.length+x.perID*aDp g.ids)])/\Bel w w':=by
 obtain ⟨A,k,A2,k2,rfl,hI,_,_,hP,_,_⟩:=h2;have HI:=aA0 (fun w' (k:Bel w w')=>aBm.keep hI k)
 have hb:(0<=x.perNode/\x.perNode<=255)/\(0<=x.perID/\x.perID<=255) /\ -4096<=x.hi/\x.hi<=4096:=by
  rcases aEa hx with h | h | h <;> omega
 have hle:=hg.le;have hids:=hg.ids;obtain ⟨g1,g2⟩:=aIs hg;obtain ⟨m1,m2⟩:=aGt hb.1.1 hb.1.2 (show (0:Int)<=g.ids.length by omega) (show (g.ids.length:Int)<=24 by omega)
 obtain ⟨m3,m4⟩:=aGt hb.2.1.1 hb.2.1.2 g1 g2;have w1:IntKind.i64.wrap (x.perNode*(g.ids.length:Int))=x.perNode*g.ids.length:=IntWalk.i64_in _ (by omega)
 have w2:IntKind.i64.wrap (x.hi+x.perNode*(g.ids.length:Int))=x.hi+x.perNode*g.ids.length:=IntWalk.i64_in _ (by omega)
 have w3:IntKind.i64.wrap (x.perID*aDp g.ids)=x.perID*aDp g.ids:=IntWalk.i64_in _ (by omega)
 have w4:IntKind.i64.wrap (x.hi+x.perNode*(g.ids.length:Int)+x.perID*aDp g.ids)=x.hi+x.perNode*g.ids.length+x.perID*aDp g.ids:=IntWalk.i64_in _ (by omega)
 have hpos:1<=g.ids.length:=by have:=hg.pos;omega
 have hn24:g.ids.length<=24:=by omega
 have HR:=aA0 (fun i hi=>(hg.idr i hi).1);clear hI hP hx hg m1 m2 m3 m4 hids hle;obtain ⟨name,kind,lo,hi,pn,pi⟩:=x;unfold aWy;dsimp only at *;have HW:=Bel.refl ((w.alloc (.cells #[.string name,.int .i64 kind,.int .i64 lo,.int .i64 hi,.int .i64 pn,.int .i64 pi] 100)).alloc (.cells #[.slice A g.ids.length k,.slice A2 g.ports.length k2] 29));have hcell:=aA0 (fun w' (kk:Bel ((w.alloc (.cells #[.string name,.int .i64 kind,.int .i64 lo,.int .i64 hi,.int .i64 pn,.int .i64 pi] 100)).alloc (.cells #[.slice A g.ids.length k,.slice A2 g.ports.length k2] 29)) w')=>And.intro ((aZn kk).1 2 _ rfl) (And.intro ((aZn kk).1 3 _ rfl) (And.intro ((aZn kk).1 4 _ rfl) (And.intro ((aZn kk).1 5 _ rfl) (And.intro ((aZn kk).2.1 0 _ rfl) (aZn kk).2.2)))));go_enter func124,ntmps124;go_wp2;replace HW:=HW.drew
 go_region_held3 (fun w'=>w'.cell? ⟨w.heap.size,2,none⟩=some (.int .i64 lo)/\w'.cell? ⟨w.heap.size,3,none⟩=some (.int .i64 hi)/\w'.cell? ⟨w.heap.size,4,none⟩=some (.int .i64 pn)/\w'.cell? ⟨w.heap.size,5,none⟩=some (.int .i64 pi)/\w'.cell? ⟨w.heap.size+1,0,none⟩=some (.slice A g.ids.length k)/\w.heap.size+1<w'.heap.size) (exact hcell.out _ HW) (first | (go_simp;go_at_call 125;refine (aR2 _ _ g.ids _ (HI.out _ (aA1 HW)) (by omega) hpos HR.out).mono ?_;rintro e w' ⟨rfl,rfl⟩))
 go_wp2
 go_ret2
 exact ⟨rfl,aA1 HW⟩
theorem aTi (x:Var) (v2:Value) (g:Graph) (i:Int) (w:World) (h2:aAn w v2 g) :
  Calls prog 126 #[aWy x,v2,.int .i64 i] w fun e w'=>e = .returned (.tuple #[.int .i64 0,.int .i64 1])/\Bel w w':=by
 obtain ⟨A,k,A2,k2,rfl,_,_,_,_,_,_⟩:=h2;unfold aWy;go_enter func126,ntmps126;go_wp2
 go_ret2
 exact ⟨rfl,((Bel.refl _).alloc _).alloc _⟩
theorem aTj (x:Var) (v2:Value) (g:Graph) (i:Nat) (w:World) (h2:aAn w v2 g) (hi:i<g.ports.length) (hl:aB3 g=true) :
  Calls prog 127 #[aWy x,v2,.int .i64 i] w fun e w'=>e = .returned (.tuple #[.int .i64 (-1),.int .i64 ((g.ports[i].length:Int)-1)])/\Bel w w':=by
 obtain ⟨A,k,A2,k2,rfl,_,_,_,hP,_,_⟩:=h2;obtain ⟨b,o,R,c1,rfl,hb,hc1,_,_,_⟩:=hP.at_ i hi;obtain ⟨_,l2,l3⟩:=aDd hl;have hlen:=l3 _ (List.getElem_mem hi);have hd:decide (i<g.ports.length)=true:=by simpa using hi
 have hw:IntKind.i64.wrap ((g.ports[i].length:Int)-1)=(g.ports[i].length:Int)-1:=IntWalk.i64_in _ (by omega)
 clear hP l3 hl;unfold aWy;go_enter func127,ntmps127;go_wp2
 go_quiet (fail)
 go_wp2
 go_ret2
 exact ⟨rfl,(((Bel.refl _).alloc _).alloc _).drewN _⟩
theorem aIq (x:Var) (v2:Value) (g:Graph) (i:Nat) (w:World) (h2:aAn w v2 g) (hx:aBu x=true) (hg:GOK g) (hi:i<g.ports.length) (hl:aB3 g=true) :
  Calls prog 103 #[aWy x,v2,.int .i64 i] w fun e w'=>e = .returned (.tuple #[.int .i64 (aAo x g i).1,.int .i64 (aAo x g i).2])/\Bel w w':=by
 have HGV:=aA0 (fun w' (k:Bel w w')=>h2.keep k);obtain ⟨A,k,A2,k2,rfl,hI,_,_,hP,_,_⟩:=h2;have HX:=aA0 hx;have HG:=aA0 hg;have HL:=aA0 hl;have hk:x.kind=1∨x.kind=2∨x.kind=3:=by rcases aEa hx with h | h | h <;> omega
 have HF:Hid (aAo x g i=if x.kind=2 then (0,1) else if x.kind=3 then (-1,(g.ports[i].length:Int)-1) else (x.lo,x.hi+x.perNode*g.ids.length+x.perID*aDp g.ids)):=by
  show aAo x g i=_
  unfold aAo;rw [aA8 hi]
 clear hI hP hx hg hl;unfold aWy;go_enter func103,ntmps103;go_wp2
 go_loopg [10,17] 3 (fun m _y z wr=>∃ j:Nat,j<3/\m=3-j/\z = .int .i64 j/\(j:Int)+1<=x.kind/\Bel (((w.alloc (.cells #[.string x.name,.int .i64 x.kind,.int .i64 x.lo,.int .i64 x.hi,.int .i64 x.perNode,.int .i64 x.perID] 100)).alloc (.cells #[.slice A g.ids.length k,.slice A2 g.ports.length k2] 29)).alloc (.cells #[.int .i64 1,.func (.func 124) #[] #[],.int .i64 2,.func (.func 126) #[] #[],.int .i64 3,.func (.func 127) #[] #[]] 165)) wr)
 case atStart=>exact ⟨0,by omega,rfl,rfl,by omega,Bel.refl _⟩
 case round =>
  obtain ⟨j,hj,rfl,rfl,hjk,HB⟩:=hrel;obtain ⟨⟨x0,x1,x2,x3,x4,x5⟩,⟨y0,y1⟩,⟨z0,z1,z2,z3,z4,z5⟩,s1,s2,s3⟩:=box3v HB;have HB0:Bel w wr:=aA3 (aA3 (aA3 HB))
  rcases (show j=0∨j=1∨j=2 by omega) with rfl | rfl | rfl
  .have HB2:=HB.alloc (.cells #[.int .i64 1,.func (.func 124) #[] #[]] 165)
   have HW2:=HB0.alloc (.cells #[.int .i64 1,.func (.func 124) #[] #[]] 165)
   by_cases hkk:x.kind=1
   .have hb1:((1:Int)==x.kind)=true:=by simp [hkk]
    rw [if_neg (by omega),if_neg (by omega)] at HF
    have HKK:=aA0 hkk;clear hkk hk hjk
    go_wp2_with (go_at_call 124;refine (aTh x _ g _ _ (HGV.out _ HW2) HX.out HG.out).mono ?_;rintro e w' ⟨rfl,hb⟩;replace HW2:=HW2.trans hb;clear hb)
    go_ret2
    rw [HF.out];exact ⟨rfl,HW2⟩
   .have hb1:((1:Int)==x.kind)=false:=by simp;omega
    go_wp2_with fail
    go_roundg 2
    case rel=>exact ⟨1,by omega,rfl,rfl,by omega,HB2⟩
    case measure=>omega
  .have HB2:=HB.alloc (.cells #[.int .i64 2,.func (.func 126) #[] #[]] 165)
   have HW2:=HB0.alloc (.cells #[.int .i64 2,.func (.func 126) #[] #[]] 165)
   by_cases hkk:x.kind=2
   .have hb1:((2:Int)==x.kind)=true:=by simp [hkk]
    rw [if_pos hkk] at HF;have HKK:=aA0 hkk;clear hkk hk hjk
    go_wp2_with (go_at_call 126;refine (aTi x _ g _ _ (HGV.out _ HW2)).mono ?_;rintro e w' ⟨rfl,hb⟩;replace HW2:=HW2.trans hb;clear hb)
    go_ret2
    rw [HF.out];exact ⟨rfl,HW2⟩
   .have hb1:((2:Int)==x.kind)=false:=by simp;omega
    go_wp2_with fail
    go_roundg 1
    case rel=>exact ⟨2,by omega,rfl,rfl,by omega,HB2⟩
    case measure=>omega
  .have hkk:x.kind=3:=by omega
   have HW2:=HB0.alloc (.cells #[.int .i64 3,.func (.func 127) #[] #[]] 165);have hb1:((3:Int)==x.kind)=true:=by simp [hkk]
   rw [if_neg (by omega),if_pos hkk] at HF
   have HKK:=aA0 hkk;clear hkk hk hjk
   go_wp2_with (go_at_call 127;refine (aTj x _ g i _ (HGV.out _ HW2) hi HL.out).mono ?_;rintro e w' ⟨rfl,hb⟩;replace HW2:=HW2.trans hb;clear hb)
   go_ret2
   rw [HF.out];exact ⟨rfl,HW2⟩
theorem aK7 (v:Value) (p:Prg) (v2:Value) (g:Graph) (i q:Nat) (w:World) (h:aEi w v p) (h2:aAn w v2 g) (hq:q<p.vars.length) (hx:aBu p.vars[q]=true) (hg:GOK g) (hi:i<g.ports.length) (hl:aB3 g=true) :
  Calls prog 91 #[v,v2,.int .i64 i,.int .i64 q] w fun e w'=>e = .returned (.tuple #[.int .i64 (aAo p.vars[q] g i).1,.int .i64 (aAo p.vars[q] g i).2])/\Bel w w':=by
 have HGV:=aA0 (fun w' (k:Bel w w')=>h2.keep k);obtain ⟨A,k,A2,k2,rfl,hV,_,_,_,_,_⟩:=h;obtain ⟨A3,k3,A4,k4,rfl,_,_,_,hP,_,_⟩:=h2;obtain ⟨b,o,rfl,hb,c0,c1,c2,c3,c4,c5⟩:=hV.at_ q hq;have hd0:decide (q<p.vars.length)=true:=by simpa using hq
 have HF:Hid (aAo p.vars[q] g i=if p.vars[q].kind=2 then (0,1) else if p.vars[q].kind=3 then (-1,(g.ports[i].length:Int)-1) else (p.vars[q].lo,p.vars[q].hi+p.vars[q].perNode*g.ids.length+p.vars[q].perID*aDp g.ids)):=by
  show aAo p.vars[q] g i=_
  unfold aAo;rw [aA8 hi]
 have HNP:=aA0 (aEa hx);have HW:=Bel.refl ((w.alloc (.cells #[.string p.name,.slice (some ⟨b,o,none⟩) p.vars.length k,.slice A2 p.rules.length k2] 25)).alloc (.cells #[.slice A3 g.ids.length k3,.slice A4 g.ports.length k4] 29))
 by_cases hk2:p.vars[q].kind=2
 .have e1:(p.vars[q].kind==2)=true:=by simpa using hk2
  rw [if_pos hk2] at HF;have HK:=aA0 hk2;clear hk2 hV hP;go_enter func91,ntmps91;go_wp2
  go_ret2
  rw [HF.out];exact ⟨rfl,aA1 HW⟩
 .have e1:(p.vars[q].kind==2)=false:=by simpa using hk2
  rw [if_neg hk2] at HF
  by_cases hk3:p.vars[q].kind=3
  .have e2:(p.vars[q].kind==3)=true:=by simpa using hk3
   rw [if_pos hk3] at HF;have HK:=aA0 hk3;obtain ⟨b',o',R,r1,rfl,hb',hc1,_,_,_⟩:=hP.at_ i hi;obtain ⟨_,l2,l3⟩:=aDd hl;have hlen:=l3 _ (List.getElem_mem hi);have hd:decide (i<g.ports.length)=true:=by simpa using hi
   have hw:IntKind.i64.wrap ((g.ports[i].length:Int)-1)=(g.ports[i].length:Int)-1:=IntWalk.i64_in _ (by omega)
   clear hk3 hk2 hV hP l3;go_enter func91,ntmps91;go_wp2
   go_quiet (fail)
   go_wp2
   go_ret2
   rw [HF.out];exact ⟨rfl,(aA1 HW).drewN _⟩
  .have e2:(p.vars[q].kind==3)=false:=by simpa using hk3
   rw [if_neg hk3] at HF
   have hb3:(0<=p.vars[q].perNode/\p.vars[q].perNode<=255)/\(0<=p.vars[q].perID/\p.vars[q].perID<=255) /\ -4096<=p.vars[q].hi/\p.vars[q].hi<=4096:=by
    rcases HNP.out with h | h | h <;> omega
   have hle:=hg.le;have hids:=hg.ids;obtain ⟨g1,g2⟩:=aIs hg;obtain ⟨m1,m2⟩:=aGt hb3.1.1 hb3.1.2 (show (0:Int)<=g.ports.length by omega) (show (g.ports.length:Int)<=24 by omega)
   obtain ⟨m3,m4⟩:=aGt hb3.2.1.1 hb3.2.1.2 g1 g2;rw [hids] at HF;have w1:IntKind.i64.wrap (p.vars[q].perNode*(g.ports.length:Int))=p.vars[q].perNode*g.ports.length:=IntWalk.i64_in _ (by omega)
   have w2:IntKind.i64.wrap (p.vars[q].hi+p.vars[q].perNode*(g.ports.length:Int))=p.vars[q].hi+p.vars[q].perNode*g.ports.length:=IntWalk.i64_in _ (by omega)
   have w3:IntKind.i64.wrap (p.vars[q].perID*aDp g.ids)=p.vars[q].perID*aDp g.ids:=IntWalk.i64_in _ (by omega)
   have w4:IntKind.i64.wrap (p.vars[q].hi+p.vars[q].perNode*(g.ports.length:Int)+p.vars[q].perID*aDp g.ids)=p.vars[q].hi+p.vars[q].perNode*g.ports.length+p.vars[q].perID*aDp g.ids:=IntWalk.i64_in _ (by omega)
   have hl1000:g.ids.length<=1000:=by omega
   have hcell:=aA0 (fun w' (kk:Bel ((w.alloc (.cells #[.string p.name,.slice (some ⟨b,o,none⟩) p.vars.length k,.slice A2 p.rules.length k2] 25)).alloc (.cells #[.slice A3 g.ids.length k3,.slice A4 g.ports.length k4] 29)) w')=>And.intro ((aAd kk).2.1) (And.intro ((aAd kk).2.2.2.1) (And.intro ((aAd kk).2.2.2.2.1) (And.intro (((aA1 kk).cell hb).trans c2) (And.intro (((aA1 kk).cell hb).trans c3) (And.intro (((aA1 kk).cell hb).trans c4) (And.intro (((aA1 kk).cell hb).trans c5) ((aAd kk).2.2.2.2.2))))))));clear hk3 hk2 hV hP m1 m2 m3 m4 hids hle hg hx hb3;generalize hvq:p.vars[q]=x at *;clear hvq;go_enter func91,ntmps91;go_wp2;replace HW:=HW.drew
   go_region_held3 (fun w'=>w'.cell? ⟨w.heap.size,1,none⟩=some (.slice (some ⟨b,o,none⟩) p.vars.length k)/\w'.cell? ⟨w.heap.size+1,0,none⟩=some (.slice A3 g.ids.length k3)/\w'.cell? ⟨w.heap.size+1,1,none⟩=some (.slice A4 g.ports.length k4)/\w'.cell? ⟨b,o+q*6+2,none⟩=some (.int .i64 x.lo)/\w'.cell? ⟨b,o+q*6+3,none⟩=some (.int .i64 x.hi)/\w'.cell? ⟨b,o+q*6+4,none⟩=some (.int .i64 x.perNode)/\w'.cell? ⟨b,o+q*6+5,none⟩=some (.int .i64 x.perID)/\w.heap.size+1<w'.heap.size) (exact hcell.out _ HW) (first | (go_simp;go_at_call 115;refine (aLs _ g _ (HGV.out _ (aA1 HW)) hl1000).mono ?_;rintro e w' ⟨rfl,hbb⟩;replace HW:=HW.trans hbb;clear hbb))
   go_wp2
   go_ret2
   rw [HF.out];exact ⟨rfl,aA1 HW⟩
def aH7 (g:Graph) (x:Var):Bool:=decide (x.kind≠1∨((aAo x g 0).1<=(aAo x g 0).2/\(aAo x g 0).2-(aAo x g 0).1+1<=4096))
def aHs (p:Prg) (g:Graph):Int :=
 if aBr p≠0 then 8 else if aDr g=false then 1 else if p.vars.all (aH7 g)=false then 9 else 0
theorem aI1 {x:Var} {g:Graph} {v:Nat} (hx:aBu x=true) (hg:GOK g) (hv:v<g.ports.length) : -4096<=(aAo x g v).1/\(aAo x g v).1<=4096 /\ -4096<=(aAo x g v).2/\(aAo x g v).2<=80000:=by
 have hle:=hg.le;have hids:=hg.ids;obtain ⟨g1,g2⟩:=aIs hg;have hlen:=aCl hv (hg.links v hv);unfold aAo;rw [aA8 hv]
 rcases aEa hx with h | h | h
 .rw [if_pos h.1];simp
 .rw [if_neg (by omega),if_pos h.1];simp;omega
 .rw [if_neg (by omega),if_neg (by omega)]
  obtain ⟨_,a1,a2,a3,a4,a5⟩:=h;obtain ⟨m1,m2⟩:=aGt a2.1 a2.2 (show (0:Int)<=g.ids.length by omega) (show (g.ids.length:Int)<=24 by omega)
  obtain ⟨m3,m4⟩:=aGt a3.1 a3.2 g1 g2;simp only []
  omega
theorem aBl {p:Prg} (h:aBr p=0):p.vars.all aBu=true/\1<=p.vars.length/\p.vars.length<=6/\p.rules.length<=12/\aCs p=true/\(∀ r∈p.rules,FOK p.vars.length r)/\(∀ r∈p.rules,aC5 (aBo p) r=true):=by
 unfold aBr at h;split at h
 .cases h
 .rename_i hn
  split at h
  .cases h
  .rename_i h1
   split at h
   .cases h
   .rename_i h2
    split at h
    .cases h
    .rename_i h3
     split at h
     .cases h
     .rename_i h4
      refine ⟨by simpa using h2,by omega,by omega,by omega,by simpa using h1,fun r hr=>?_,fun r hr=>?_⟩
      .exact (aEm _ _).1 (List.all_eq_true.1 (by simpa using h3:p.rules.all (aC8 p.vars.length)=true) r hr)
      .exact List.all_eq_true.1 (by simpa using h4:p.rules.all (aC5 (aBo p))=true) r hr
theorem aQa (v:Value) (p:Prg) (v2:Value) (g:Graph) (w:World) (h:aEi w v p) (h2:aAn w v2 g) (hL:aAu p=true) (hG:aB3 g=true) :
  Calls prog 81 #[v,v2] w fun e w'=>e = .returned (.int .i64 (aHs p g))/\Bel w w':=by
 have HPV:=aA0 (fun w' (k:Bel w w')=>h.keep k);have HGV:=aA0 (fun w' (k:Bel w w')=>h2.keep k);obtain ⟨A,k,A2,k2,rfl,hV,_,_,_,_,_⟩:=h;obtain ⟨A3,k3,A4,k4,rfl,_,_,_,_,_,_⟩:=h2;have HV:=aA0 (fun w' (k:Bel w w')=>aHw.keep hV k);clear hV;have HL:=aA0 hL;have HGL:=aA0 hG;clear hL hG;have HW:=Bel.refl ((w.alloc (.cells #[.string p.name,.slice A p.vars.length k,.slice A2 p.rules.length k2] 25)).alloc (.cells #[.slice A3 g.ids.length k3,.slice A4 g.ports.length k4] 29));have HF:Hid (aHs p g=if aBr p≠0 then 8 else if aDr g=false then 1 else if p.vars.all (aH7 g)=false then 9 else 0):=rfl
 by_cases hc:aBr p=0
 .have hcb:decide (aBr p=0)=true:=by simpa using hc
  rw [if_neg (by simpa using hc)] at HF
  have HCN:=aA0 (aBl hc);have HCB:=aA0 hcb;clear hc hcb;have hn6:=HCN.out.2.2.1;cases hg:aDr g with
  | false =>
   rw [hg,if_pos rfl] at HF;go_enter func81,ntmps81
   go_wp2_with (first
    | (go_at_call 101;refine (aIc _ p _ (HPV.out _ (aA1 HW)) HL.out).mono ?_;rintro e w' ⟨rfl,hb⟩;rw [HCB.out];replace HW:=HW.trans hb;clear hb;obtain ⟨p0,p1,p2,g0,g1,gsz⟩:=aAd HW)
    | (go_at_call 102;refine (aJ6 _ g _ (HGV.out _ (aA1 HW)) HGL.out).mono ?_;rintro e w' ⟨rfl,hb⟩;rw [hg];replace HW:=HW.trans hb;clear hb))
   go_ret;exact ⟨aA5 HF.out.symm,aA1 HW⟩
  | true =>
   rw [hg,if_neg (by decide)] at HF
   have HGG:=aA0 hg;have HGO:=aA0 ((aDj g).1 hg);clear hg;go_enter func81,ntmps81
   go_wp2_with (first
    | (go_at_call 101;refine (aIc _ p _ (HPV.out _ (aA1 HW)) HL.out).mono ?_;rintro e w' ⟨rfl,hb⟩;rw [HCB.out];replace HW:=HW.trans hb;clear hb;obtain ⟨p0,p1,p2,g0,g1,gsz⟩:=aAd HW)
    | (go_at_call 102;refine (aJ6 _ g _ (HGV.out _ (aA1 HW)) HGL.out).mono ?_;rintro e w' ⟨rfl,hb⟩;rw [HGG.out];replace HW:=HW.trans hb;clear hb p0 p1 p2 g0 g1 gsz;obtain ⟨p0,p1,p2,g0,g1,gsz⟩:=aAd HW))
   clear p0 p1 p2 g0 g1 gsz
   go_loopg [6,7,8,18] p.vars.length (fun m _x _y _u z wr=>∃ j:Nat,j<=p.vars.length/\m=p.vars.length-j/\z = .int .i64 j/\Hid ((p.vars.take j).all (aH7 g)=true)/\Bel ((w.alloc (.cells #[.string p.name,.slice A p.vars.length k,.slice A2 p.rules.length k2] 25)).alloc (.cells #[.slice A3 g.ids.length k3,.slice A4 g.ports.length k4] 29)) wr)
   case atStart=>exact ⟨0,by omega,rfl,rfl,rfl,HW⟩
   case round =>
    clear HW;obtain ⟨i,hi,rfl,rfl,HJ,HW⟩:=hrel
    by_cases hlt:i<p.vars.length
    .have hd0:decide (i<p.vars.length)=true:=by simpa using hlt
     obtain ⟨p0,p1,p2,g0,g1,gsz⟩:=aAd HW;obtain ⟨b,o,rfl,hb,c0,c1,c2,c3,c4,c5⟩:=(HV.out _ (aA1 HW)).at_ i hlt;have HNX:=aA0 (List.all_eq_true.1 HCN.out.1 _ (List.getElem_mem hlt));have hpos:0<g.ports.length:=HGO.out.pos;have hbs:=aI1 HNX.out HGO.out hpos;have HFV:Hid (aH7 g p.vars[i]=decide (p.vars[i].kind≠1∨((aAo p.vars[i] g 0).1<=(aAo p.vars[i] g 0).2/\(aAo p.vars[i] g 0).2-(aAo p.vars[i] g 0).1+1<=4096))):=rfl;have HW2:=HW.alloc (.cells #[.string p.vars[i].name,.int .i64 p.vars[i].kind,.int .i64 p.vars[i].lo,.int .i64 p.vars[i].hi,.int .i64 p.vars[i].perNode,.int .i64 p.vars[i].perID] 100)
     by_cases hk:p.vars[i].kind=1
     .have hkb:(p.vars[i].kind != 1)=false:=by simpa using hk
      have HK:=aA0 hk;clear hk;generalize hbd:aAo p.vars[i] g 0=B at *;have HBD:=aA0 hbd;clear hbd;obtain ⟨lo,hi'⟩:=B;dsimp only at hbs HFV
      by_cases hok:lo<=hi'/\hi' - lo+1<=4096
      .have d1:decide (hi' < lo)=false:=by simp;omega
       have d2:decide (4096<hi' - lo+1)=false:=by simp;omega
       have HN:=aA0 (aAb hlt HJ.out (by rw [HFV.out];simp;omega))
       go_wp2_with (go_at_call 103;refine (aIq p.vars[i] _ g 0 _ (HGV.out _ (aA1 HW2)) HNX.out HGO.out hpos HGL.out).mono ?_;rintro e w' ⟨rfl,hb⟩;rw [HBD.out];replace HW2:=HW2.trans hb;clear hb)
       go_roundg (p.vars.length-(i+1))
       case rel=>exact ⟨i+1,by omega,rfl,by go_num,HN,HW2⟩
       case measure=>omega
      .rw [aAq hlt (by rw [HFV.out,decide_eq_false];have:=HK.out;omega),if_pos rfl] at HF
       by_cases d1:hi' < lo
       .have d1:decide (hi' < lo)=true:=by simpa using d1
        clear hok
        go_wp2_with (go_at_call 103;refine (aIq p.vars[i] _ g 0 _ (HGV.out _ (aA1 HW2)) HNX.out HGO.out hpos HGL.out).mono ?_;rintro e w' ⟨rfl,hb⟩;rw [HBD.out];replace HW2:=HW2.trans hb;clear hb)
        go_ret;exact ⟨aA5 HF.out.symm,aA1 HW2⟩
       .have d2:decide (4096<hi' - lo+1)=true:=by simp;omega
        have d1:decide (hi' < lo)=false:=by simpa using d1
        clear hok
        go_wp2_with (go_at_call 103;refine (aIq p.vars[i] _ g 0 _ (HGV.out _ (aA1 HW2)) HNX.out HGO.out hpos HGL.out).mono ?_;rintro e w' ⟨rfl,hb⟩;rw [HBD.out];replace HW2:=HW2.trans hb;clear hb)
        go_ret;exact ⟨aA5 HF.out.symm,aA1 HW2⟩
     .have hkb:(p.vars[i].kind != 1)=true:=by simpa using hk
      have HN:=aA0 (aAb hlt HJ.out (by rw [HFV.out];simp [hk]))
      go_wp2_with fail
      go_roundg (p.vars.length-(i+1))
      case rel=>exact ⟨i+1,by omega,rfl,by go_num,HN,HW2⟩
      case measure=>omega
    .have hd0:decide (i<p.vars.length)=false:=by simpa using hlt
     rw [aAr (by omega) HJ.out,if_neg (by decide)] at HF
     go_wp2_with fail
     go_ret;exact ⟨aA5 HF.out.symm,aA1 HW⟩
 .have hcb:decide (aBr p=0)=false:=by simpa using hc
  rw [if_pos hc] at HF;have HCB:=aA0 hcb;clear hc hcb;go_enter func81,ntmps81
  go_wp2_with (go_at_call 101;refine (aIc _ p _ (HPV.out _ (aA1 HW)) HL.out).mono ?_;rintro e w' ⟨rfl,hb⟩;rw [HCB.out];replace HW:=HW.trans hb;clear hb)
  go_ret;exact ⟨aA5 HF.out.symm,aA1 HW⟩
theorem aJv (v:Value) (p:Prg) (v2:Value) (g:Graph) (w:World) (h:aEi w v p) (h2:aAn w v2 g) (hL:aAu p=true) (hG:aB3 g=true) :
  Calls prog 90 #[v,v2] w fun e w'=>e = .returned (.int .i64 (aHs p g))/\Bel w w':=by
 have HPV:=aA0 (fun w' (k:Bel w w')=>h.keep k);have HGV:=aA0 (fun w' (k:Bel w w')=>h2.keep k);obtain ⟨A,k,A2,k2,rfl,hV,_,_,_,_,_⟩:=h;obtain ⟨A3,k3,A4,k4,rfl,_,_,_,_,_,_⟩:=h2;have HV:=aA0 (fun w' (k:Bel w w')=>aHw.keep hV k);clear hV;have HL:=aA0 hL;have HGL:=aA0 hG;clear hL hG;have HW:=Bel.refl ((w.alloc (.cells #[.string p.name,.slice A p.vars.length k,.slice A2 p.rules.length k2] 25)).alloc (.cells #[.slice A3 g.ids.length k3,.slice A4 g.ports.length k4] 29));have HF:Hid (aHs p g=if aBr p≠0 then 8 else if aDr g=false then 1 else if p.vars.all (aH7 g)=false then 9 else 0):=rfl
 by_cases hc:aBr p=0
 .have hcb:decide (aBr p=0)=true:=by simpa using hc
  rw [if_neg (by simpa using hc)] at HF
  have HCN:=aA0 (aBl hc);have HCB:=aA0 hcb;clear hc hcb;have hn6:=HCN.out.2.2.1;cases hg:aDr g with
  | false =>
   rw [hg,if_pos rfl] at HF;go_enter func90,ntmps90
   go_wp2_with (first
    | (go_at_call 114;refine (aG1 _ p _ (HPV.out _ (aA1 HW)) HL.out).mono ?_;rintro e w' ⟨rfl,hb⟩;rw [HCB.out];replace HW:=HW.trans hb;clear hb;obtain ⟨p0,p1,p2,g0,g1,gsz⟩:=aAd HW)
    | (go_at_call 72;refine (aC2 _ g _ (HGV.out _ (aA1 HW)) HGL.out).mono ?_;rintro e w' ⟨rfl,hb⟩;rw [hg];replace HW:=HW.trans hb;clear hb))
   go_ret;exact ⟨aA5 HF.out.symm,aA1 HW⟩
  | true =>
   rw [hg,if_neg (by decide)] at HF
   have HGG:=aA0 hg;have HGO:=aA0 ((aDj g).1 hg);clear hg;go_enter func90,ntmps90
   go_wp2_with (first
    | (go_at_call 114;refine (aG1 _ p _ (HPV.out _ (aA1 HW)) HL.out).mono ?_;rintro e w' ⟨rfl,hb⟩;rw [HCB.out];replace HW:=HW.trans hb;clear hb;obtain ⟨p0,p1,p2,g0,g1,gsz⟩:=aAd HW)
    | (go_at_call 72;refine (aC2 _ g _ (HGV.out _ (aA1 HW)) HGL.out).mono ?_;rintro e w' ⟨rfl,hb⟩;rw [HGG.out];replace HW:=HW.trans hb;clear hb p0 p1 p2 g0 g1 gsz;obtain ⟨p0,p1,p2,g0,g1,gsz⟩:=aAd HW))
   clear p0 p1 p2 g0 g1 gsz
   go_loopg [5,6,7] p.vars.length (fun m z _y _u wr=>∃ j:Nat,j<=p.vars.length/\m=p.vars.length-j/\z = .int .i64 j/\Hid ((p.vars.take j).all (aH7 g)=true)/\Bel ((w.alloc (.cells #[.string p.name,.slice A p.vars.length k,.slice A2 p.rules.length k2] 25)).alloc (.cells #[.slice A3 g.ids.length k3,.slice A4 g.ports.length k4] 29)) wr)
   case atStart=>exact ⟨0,by omega,rfl,rfl,rfl,HW⟩
   case round =>
    clear HW;obtain ⟨i,hi,rfl,rfl,HJ,HW⟩:=hrel;obtain ⟨p0,p1,p2,g0,g1,gsz⟩:=aAd HW
    by_cases hlt:i<p.vars.length
    .have hd0:decide (i<p.vars.length)=true:=by simpa using hlt
     have HNX:=aA0 (List.all_eq_true.1 HCN.out.1 _ (List.getElem_mem hlt));have hpos:0<g.ports.length:=HGO.out.pos;have hbs:=aI1 HNX.out HGO.out hpos;have HFV:Hid (aH7 g p.vars[i]=decide (p.vars[i].kind≠1∨((aAo p.vars[i] g 0).1<=(aAo p.vars[i] g 0).2/\(aAo p.vars[i] g 0).2-(aAo p.vars[i] g 0).1+1<=4096))):=rfl;generalize hbd:aAo p.vars[i] g 0=B at *;have HBD:=aA0 hbd;clear hbd;obtain ⟨lo,hi'⟩:=B;dsimp only at hbs HFV
     go_wp2_with fail
     refine (aK7 _ p _ g 0 i _ (HPV.out _ (aA1 HW)) (HGV.out _ (aA1 HW)) hlt HNX.out HGO.out hpos HGL.out).mono ?_
     rintro e w' ⟨rfl,hb⟩;rw [HBD.out];replace HW:=HW.trans hb;clear hb p0 p1 p2 g0 g1 gsz;obtain ⟨p0,p1,p2,g0,g1,gsz⟩:=aAd HW;obtain ⟨b,o,rfl,hb,c0,c1,c2,c3,c4,c5⟩:=(HV.out _ (aA1 HW)).at_ i hlt;dsimp only
     by_cases hk:p.vars[i].kind=1
     .have hkb:(p.vars[i].kind==1)=true:=by simpa using hk
      have HK:=aA0 hk;clear hk
      by_cases hok:lo<=hi'/\hi' - lo+1<=4096
      .have d1:inB (hi' - lo) 0 4095=true:=aDx (by omega) (by omega)
       have HN:=aA0 (aAb hlt HJ.out (by rw [HFV.out];simp;omega))
       go_wp2_with (go_at_call 92;refine (aCo _ _ _ _).mono ?_;rintro e w' ⟨rfl,rfl⟩)
       go_roundg (p.vars.length-(i+1))
       case rel=>exact ⟨i+1,by omega,rfl,by go_num,HN,HW⟩
       case measure=>omega
      .rw [aAq hlt (by rw [HFV.out,decide_eq_false];have:=HK.out;omega),if_pos rfl] at HF
       have d1:inB (hi' - lo) 0 4095=false:=aI6 (by omega)
       clear hok
       go_wp2_with (go_at_call 92;refine (aCo _ _ _ _).mono ?_;rintro e w' ⟨rfl,rfl⟩)
       go_ret;exact ⟨aA5 HF.out.symm,aA1 HW⟩
     .have hkb:(p.vars[i].kind==1)=false:=by simpa using hk
      have HN:=aA0 (aAb hlt HJ.out (by rw [HFV.out];simp [hk]))
      go_wp2_with fail
      go_roundg (p.vars.length-(i+1))
      case rel=>exact ⟨i+1,by omega,rfl,by go_num,HN,HW⟩
      case measure=>omega
    .have hd0:decide (i<p.vars.length)=false:=by simpa using hlt
     rw [aAr (by omega) HJ.out,if_neg (by decide)] at HF
     go_wp2_with fail
     go_ret;exact ⟨aA5 HF.out.symm,aA1 HW⟩
 .have hcb:decide (aBr p=0)=false:=by simpa using hc
  rw [if_pos hc] at HF;have HCB:=aA0 hcb;clear hc hcb;go_enter func90,ntmps90
  go_wp2_with (go_at_call 114;refine (aG1 _ p _ (HPV.out _ (aA1 HW)) HL.out).mono ?_;rintro e w' ⟨rfl,hb⟩;rw [HCB.out];replace HW:=HW.trans hb;clear hb)
  go_ret;exact ⟨aA5 HF.out.symm,aA1 HW⟩
def Fr (g:Nat) (a b:World):Prop:=a.heap.size<=b.heap.size/\∀ k,k<a.heap.size->k≠g->b.heap[k]?=a.heap[k]?
theorem Fr.refl (g:Nat) (a:World):Fr g a a:=⟨Nat.le_refl _,fun _ _ _=>rfl⟩
theorem Fr.trans {g:Nat} {a b c:World} (h:Fr g a b) (k:Fr g b c):Fr g a c:=⟨Nat.le_trans h.1 k.1,fun i hi hg=>(k.2 i (Nat.lt_of_lt_of_le hi h.1) hg).trans (h.2 i hi hg)⟩
theorem Fr.of_bel {g:Nat} {a b:World} (h:Bel a b):Fr g a b:=⟨h.size,fun k hk _=>h.block k hk⟩
theorem Fr.alloc {g:Nat} {a b:World} (h:Fr g a b) (o:Obj):Fr g a (b.alloc o):=h.trans (Fr.of_bel ((Bel.refl b).alloc o))
theorem Fr.drew {g:Nat} {a b:World} (h:Fr g a b):Fr g a b.drew:=h
theorem Fr.drewN {g:Nat} {a b:World} (h:Fr g a b) (n:Nat):Fr g a (b.drewN n):=h
theorem Fr.set {g:Nat} {a b:World} (h:Fr g a b) (o:Nat) (v:Value):Fr g a (b.setCell ⟨g,o,none⟩ v) :=
 h.trans ⟨by simp,fun k hk hg=>Below.heap_setCell _ _ _ _ hg⟩
theorem Fr.cell {g:Nat} {a b:World} (h:Fr g a b) {k o:Nat} (hk:k<a.heap.size) (hg:k≠g):b.cell? ⟨k,o,none⟩=a.cell? ⟨k,o,none⟩:=by
 unfold World.cell?;rw [h.2 k hk hg]
theorem Fr.newer {g g':Nat} {a b c:World} (h:Fr g a b) (hg:a.heap.size<=g') (k:Fr g' b c):Fr g a c :=
 ⟨Nat.le_trans h.1 k.1,fun i hi hne=>(k.2 i (Nat.lt_of_lt_of_le hi h.1) (by omega)).trans (h.2 i hi hne)⟩
def aMs (w:World) (b o:Nat) (x:Int × Int):Prop:=w.cell? ⟨b,o,none⟩=some (.int .i64 x.1)/\w.cell? ⟨b,o+1,none⟩=some (.int .i64 x.2)
theorem aMs.keeps:aM7 aMs:=fun _ _ _ _ _ k hb h=>⟨(k.cell hb).trans h.1,(k.cell hb).trans h.2⟩
def aLk:=aAi 2 aMs
def aP3:=aAi 1 (aJ1 2 aMs)
theorem aP3.keep {w w':World} {A:Option Addr} {n:Nat} {xs:List (List (Int × Int))} (h:aP3 w A n xs) (k:Bel w w'):aP3 w' A n xs:=aAi.keep (aJ1.keeps aMs.keeps) h k
theorem aLk.keep {w w':World} {A:Option Addr} {n:Nat} {xs:List (Int × Int)} (h:aLk w A n xs) (k:Bel w w'):aLk w' A n xs:=aAi.keep aMs.keeps h k
theorem aP3.at_ {w:World} {A:Option Addr} {n:Nat} {xs:List (List (Int × Int))} (h:aP3 w A n xs) (k:Nat) (hk:k<xs.length) :
  ∃ b o R c,A=some ⟨b,o,none⟩/\b<w.heap.size/\w.cell? ⟨b,o+k,none⟩=some (.slice R xs[k].length c)/\aLk w R xs[k].length xs[k]/\xs[k].length<=c/\c<=maxLen:=RowsAt.at_ h k hk
theorem aLk.at_ {w:World} {A:Option Addr} {n:Nat} {xs:List (Int × Int)} (h:aLk w A n xs) (k:Nat) (hk:k<xs.length) :
  ∃ b o,A=some ⟨b,o,none⟩/\b<w.heap.size/\w.cell? ⟨b,o+k*2,none⟩=some (.int .i64 xs[k].1)/\w.cell? ⟨b,o+k*2+1,none⟩=some (.int .i64 xs[k].2):=aAi.at_ h k hk
def aJ3 (w:World) (v:Value) (t:List (List (Int × Int))):Prop:=∃ A c,v = .slice A t.length c/\aP3 w A t.length t/\t.length<=c/\c<=maxLen
theorem aJ3.keep {w w':World} {v:Value} {t:List (List (Int × Int))} (h:aJ3 w v t) (k:Bel w w'):aJ3 w' v t:=by
 obtain ⟨A,c,e,h1,h2⟩:=h;exact ⟨A,c,e,h1.keep k,h2⟩
def aIx (p:Prg) (g:Graph) (v:Nat):List (Int × Int):=p.vars.map fun x=>aAo x g v
def aAz (p:Prg) (g:Graph):List (List (Int × Int)):=(List.range g.ids.length).map (aIx p g)
def aZf (t:List (List (Int × Int))) (w:World) (e:Ending) (w':World):Prop:=∃ v,e = .returned v/\aJ3 w' v t/\Bel w w'
def aK2 (N:Nat) (w:World) (v:Value) (t:List (List (Int × Int))):Prop:=∀ W,aAx N w W->aJ3 W v t
theorem aK2.keep {N:Nat} {w w':World} {v:Value} {t:List (List (Int × Int))} (h:aK2 N w v t) (k:Bel w w'):aK2 N w' v t:=fun W hW=>h W (hW.back k)
theorem aK2.low {N M:Nat} {w:World} {v:Value} {t:List (List (Int × Int))} (h:aK2 N w v t) (hM:M<=N):aK2 M w v t:=fun W hW=>h W (hW.up hM)
def aX5 (t:List (List (Int × Int))) (w:World) (e:Ending) (w':World):Prop:=∃ v,e = .returned v/\aK2 w.heap.size w' v t/\Bel w w'
def aMc (w:World) (N m gb v:Nat) (hs:List Value) (t:List (List (Int × Int))):Prop :=
 ∀ u,u<v->∃ gu,hs[u]?=some (.slice (some ⟨gu,0,none⟩) m m)/\gu≠gb/\gu<w.heap.size/\N<=gu/\∀ x i,(t.getD u [])[i]?=some x->aMs w gu (i*2) x
theorem aMc.kept {w w':World} {N m gb v:Nat} {hs:List Value} {t:List (List (Int × Int))} (h:aMc w N m gb v hs t) (hf:Fr gb w w'):aMc w' N m gb v hs t:=fun u hu=>by
 obtain ⟨gu,h1,h2,h3,h5,h4⟩:=h u hu;exact ⟨gu,h1,h2,Nat.lt_of_lt_of_le h3 hf.1,h5,fun x i hx=>⟨(hf.cell h3 h2).trans (h4 x i hx).1,(hf.cell h3 h2).trans (h4 x i hx).2⟩⟩
theorem aV4 {w w':World} {base:Nat} {e:TypeId} {size gb n c g:Nat} {xs:List Value} (h:w.ownsRow base e size (.slice (some ⟨gb,0,none⟩) n c) n xs) (hf:Fr g w w') (hne:gb≠g):w'.ownsRow base e size (.slice (some ⟨gb,0,none⟩) n c) n xs:=by
 refine ⟨h.1,?_⟩
 rcases h.2 with ⟨hv,_⟩ | ⟨g',cap,cur,hv,hb,hg,hr⟩
 .cases hv
 .right
  refine ⟨g',cap,cur,hv,hb,?_,hr⟩
  injection hv with hA;injection hA with hA;injection hA with hA;subst hA
  rw [hf.2 gb (lt_of_block hg) hne];exact hg
theorem aGu {w:World} {base:Nat} {e:TypeId} {g n c:Nat} {xs:List Value} (h:w.ownsRow base e 1 (.slice (some ⟨g,0,none⟩) n c) n xs) (j:Nat) (hj:j<xs.length):w.cell? ⟨g,j,none⟩=some xs[j]:=by
 obtain ⟨g',e1,_,_,h1,_⟩:=aDs h (List.getElem?_eq_getElem hj);obtain rfl:g=g':=by simpa using e1
 exact h1
def aL4 (l:List Term) (k:Nat):List Term:=l.take k++List.replicate (l.length-k) ⟨0,0⟩
theorem aVz (l:List Term):aL4 l 0=List.replicate l.length ⟨0,0⟩:=by simp [aL4]
theorem aVx (l:List Term) (k:Nat) (h:l.length<=k):aL4 l k=l:=by simp [aL4,List.take_of_length_le h,show l.length-k=0 by omega]
theorem aRk (l:List Term) (k:Nat):(aL4 l k).length=l.length:=by simp [aL4];omega
theorem aXm (l:List Term) (k:Nat) (h:k<l.length):(aL4 l k)[k]?=some ⟨0,0⟩:=by
 unfold aL4;rw [List.getElem?_append_right (by simp;omega)]
 rw [List.length_take,Nat.min_eq_left (Nat.le_of_lt h),Nat.sub_self,List.getElem?_replicate,if_pos (by omega)]
theorem aVy (l:List Term) (k:Nat) (h:k<l.length):(aL4 l k).set k l[k]=aL4 l (k+1):=by
 unfold aL4;rw [List.set_append_right _ _ (by simp;omega),List.length_take,Nat.min_eq_left (Nat.le_of_lt h),Nat.sub_self,show l.length-k=(l.length-(k+1))+1 by omega,List.replicate_succ,List.set_cons_zero]
 conv=>rhs;rw [List.take_succ_eq_append_getElem h,List.append_assoc]
 rfl
theorem aP0 (es:List Term) (k:Nat) (t:Term) (h:k<es.length):((es.flatMap aCk).set (k*2) (.int .i64 t.op)).set (k*2+1) (.int .i64 t.arg)=(es.set k t).flatMap aCk:=by
 induction es generalizing k with
 | nil=>simp at h
 | cons x es ih =>
  cases k with
  | zero=>simp [aCk]
  | succ k =>
   have:=ih k (by simpa using h)
   rw [show (k+1)*2+1=(k*2+1)+1+1 by omega,show (k+1)*2=k*2+1+1 by omega]
   simpa [aCk] using this
theorem aUj (m:Nat):(List.replicate m (⟨0,0⟩:Term)).flatMap aCk=List.replicate (m*2) (.int .i64 0):=by
 induction m with
 | zero=>rfl
 | succ m ih=>rw [List.replicate_succ,List.flatMap_cons,ih,show (m+1)*2=m*2+1+1 by omega,List.replicate_succ,List.replicate_succ];rfl
theorem aY2 (m:Nat):(madeCells (Value.agg #[.int .i64 0,.int .i64 0]).cells (m*2)).toList=(List.replicate m (⟨0,0⟩:Term)).flatMap aCk:=by
 rw [aUj,List.eq_replicate_iff];refine ⟨by simp [madeCells],fun b hb=>?_⟩
 simp [madeCells,Value.cells] at hb
 obtain ⟨i,hi,rfl⟩:=hb
 rcases Nat.mod_two_eq_zero_or_one i with h | h <;> simp [h]
theorem bA0:(prog.info? 147).map (fun i=>(i.zero,i.size,i.bytes))=some (some (.slice none 0 0),1,24):=by kernel_rfl
theorem aYf:(prog.info? 149).map (fun i=>(i.zero,i.size,i.bytes))=some (some (.agg #[.int .i64 0,.int .i64 0]),2,16):=by kernel_rfl
theorem aPs (v:Value) (p:Prg) (v2:Value) (g:Graph) (w:World) (h:aEi w v p) (h2:aAn w v2 g) (hc:aBr p=0) (hg:GOK g) (hG:aB3 g=true) :
  Calls prog 83 #[v,v2] w (aX5 (aAz p g) w):=by
 have HGV:=aA0 (fun w' (k:Bel w w')=>h2.keep k);obtain ⟨A,k,A2,k2,rfl,hV,_,_,_,_,_⟩:=h;obtain ⟨A3,k3,A4,k4,rfl,_,_,_,_,_,_⟩:=h2;have HV:=aA0 (fun w' (k:Bel w w')=>aHw.keep hV k);clear hV;obtain ⟨cn,c1,c6,_⟩:=aBl hc;have HCN:=aA0 cn;have HGO:=aA0 hg;have HGL:=aA0 hG;have hn:g.ids.length<=24:=by rw [hg.ids];exact hg.le
 obtain ⟨i0,hi0,hz0,hz1,hz2⟩:=info_parts bA0;obtain ⟨j0,hj0,hy0,hy1,hy2⟩:=info_parts aYf
 have HT:Hid (∀ u,u<g.ids.length->(aAz p g).getD u []=aIx p g u):=fun u hu=>by
  unfold aAz;simp [List.getD_eq_getElem?_getD,hu]
 clear cn hc hg hG;go_enter func83,ntmps83
 go_wp2_with (at_make;refine aG3 _ rfl 124 (.tmp 11) (.tmp 11) rfl (w.heap.size+1+1) 147 i0 (.slice none 0 0) 1 underlying124 hi0 hz0 hz1 .i64 .i64 g.ids.length rfl rfl (by rw [hz2];omega) (by unfold maxLen;omega) (by simp) ?_;intro gb w1 hown hb;have HW:=hb;rw [aKd _ rfl] at hown;have HO:=aA0 hown;clear hown hb)
 obtain ⟨hgb1,hgb2⟩:=aBg HO.out;obtain ⟨p0,p1,p2,g0,g1,gsz⟩:=aAd HW;go_wp2;clear p0 p1 p2 g0 g1 gsz
 go_loopg [6,7,8,15] g.ids.length (fun m _x _y _u z wr=>∃ (v:Nat) (hs:List Value),v<=g.ids.length/\m=g.ids.length-v/\z = .int .i64 v/\Hid (wr.ownsRow (w.heap.size+1+1) 147 1 (.slice (some ⟨gb,0,none⟩) g.ids.length g.ids.length) g.ids.length hs)/\Hid (aMc wr w.heap.size p.vars.length gb v hs (aAz p g))/\Bel ((w.alloc (.cells #[.string p.name,.slice A p.vars.length k,.slice A2 p.rules.length k2] 25)).alloc (.cells #[.slice A3 g.ids.length k3,.slice A4 g.ports.length k4] 29)) wr)
 case atStart=>exact ⟨0,_,by omega,rfl,rfl,HO,fun u hu=>absurd hu (by omega),HW⟩
 case round =>
  clear HO HW hgb2;obtain ⟨wo,rfl⟩:∃ wo:World,wo=wr:=⟨_,rfl⟩;obtain ⟨v,hs,hv,rfl,rfl,HO,HD,HW⟩:=hrel
  by_cases hlt:v<g.ids.length
  .have hd0:decide (v<g.ids.length)=true:=by simpa using hlt
   obtain ⟨p0,p1,p2,g0,g1,gsz⟩:=aAd HW;have hwo:w.heap.size+1<wo.heap.size:=gsz;have hsl:hs.length=g.ids.length:=by have:=HO.out.1;omega
   have hfr0:=Fr.refl gb wo;have hvp:v<g.ports.length:=by rw [<- HGO.out.ids];exact hlt
   obtain ⟨row,hrow⟩:∃ row:List Term,row=(aIx p g v).map (fun x=>(⟨x.1,x.2⟩:Term)):=⟨_,rfl⟩;have hrl:row.length=p.vars.length:=by rw [hrow];simp [aIx]
   have HROW:=aA0 hrow;have HRL:=aA0 hrl;clear hrow hrl
   go_wp2_with (at_make;refine aG3 _ rfl 147 (.tmp 22) (.tmp 22) rfl wo.heap.size 149 j0 (.agg #[.int .i64 0,.int .i64 0]) 2 underlying147 hj0 hy0 hy1 .i64 .i64 p.vars.length rfl rfl (by rw [hy2];omega) (by unfold maxLen;omega) (Nat.le_refl _) ?_;intro gr w1 hown hb;rw [aY2] at hown;have HR:=aA0 hown;have HB1:=aA0 hb;have HO1:=aA0 (hb.owns HO.out);have y1:=aGu HO1.out v (by omega);have y2:=HO1.out.frozenAt v;have ygb:=(aBg HO1.out).2;have hgr:=aBg hown;have HW1:=(HW.trans hb).setCell (p:=⟨gb,v,none⟩) (by simp;omega) (.slice (some ⟨gr,0,none⟩) p.vars.length p.vars.length);clear p0 p1 p2 g0 g1 gsz;obtain ⟨p0,p1,p2,g0,g1,gsz⟩:=aAd HW1;clear hown hb)
   have HO2:=aA0 (HO1.out.stored v (.slice (some ⟨gr,0,none⟩) p.vars.length p.vars.length)).1;have hne:gb≠gr:=by have:=(aBg HO.out).2;omega
   have HF1:=((Fr.of_bel (g:=gb) HB1.out).set v (.slice (some ⟨gr,0,none⟩) p.vars.length p.vars.length));have HR2:=aA0 (aV4 HR.out ((Fr.refl gb w1).set v (.slice (some ⟨gr,0,none⟩) p.vars.length p.vars.length)) (Ne.symm hne));have hgr0:=(aBg HR.out).1;clear HO1 HR HB1 y1 y2 ygb hgr p0 p1 p2 g0 g1 gsz hd0;generalize hw2:w1.setCell ⟨gb,v,none⟩ (.slice (some ⟨gr,0,none⟩) p.vars.length p.vars.length)=w2 at *;clear hw2
   go_loopg [7,8,28] p.vars.length (fun m _x _y z ws=>∃ j:Nat,j<=p.vars.length/\m=p.vars.length-j/\z = .int .i64 j/\Hid (ws.ownsRow wo.heap.size 149 2 (.slice (some ⟨gr,0,none⟩) p.vars.length p.vars.length) p.vars.length ((aL4 row j).flatMap aCk))/\Hid (ws.ownsRow (w.heap.size+1+1) 147 1 (.slice (some ⟨gb,0,none⟩) g.ids.length g.ids.length) g.ids.length (hs.set v (.slice (some ⟨gr,0,none⟩) p.vars.length p.vars.length)))/\Fr gb wo ws/\Bel ((w.alloc (.cells #[.string p.name,.slice A p.vars.length k,.slice A2 p.rules.length k2] 25)).alloc (.cells #[.slice A3 g.ids.length k3,.slice A4 g.ports.length k4] 29)) ws)
   case atStart =>
    refine ⟨0,by omega,rfl,rfl,?_,HO2,HF1,HW1⟩
    show World.ownsRow _ _ _ _ _ _ _
    rw [aVz,HRL.out];exact HR2.out
   case round =>
    clear HO2 HF1 HW1 HR2 HW;obtain ⟨j,hj,rfl,rfl,HR,HO2,HF,HW⟩:=hrel
    by_cases hlt2:j<p.vars.length
    .have hd0:decide (j<p.vars.length)=true:=by simpa using hlt2
     obtain ⟨p0,p1,p2,g0,g1,gsz⟩:=aAd HW;obtain ⟨b,o,rfl,hb,c0,c1',c2,c3,c4,c5⟩:=(HV.out _ (aA1 HW)).at_ j hlt2;have HNX:=aA0 (List.all_eq_true.1 HCN.out _ (List.getElem_mem hlt2))
     have hrj:row[j]'(by rw [HRL.out];exact hlt2)=⟨(aAo p.vars[j] g v).1,(aAo p.vars[j] g v).2⟩:=by
      have:=HROW.out;subst this;simp [aIx]
     have HRJ:=aA0 hrj;clear hrj
     have hhd:wr.cell? ⟨gb,v,none⟩=some (.slice (some ⟨gr,0,none⟩) p.vars.length p.vars.length):=by
      have:=aGu HO2.out v (by simp;omega)
      simpa using this
     have hgbl:=(aBg HO2.out).2;have hgrl:=(aBg HR.out).2;have HW1:=HW.alloc (.cells #[.string p.vars[j].name,.int .i64 p.vars[j].kind,.int .i64 p.vars[j].lo,.int .i64 p.vars[j].hi,.int .i64 p.vars[j].perNode,.int .i64 p.vars[j].perID] 100);have HG:=(Fr.refl gr (wr.alloc (.cells #[.string p.vars[j].name,.int .i64 p.vars[j].kind,.int .i64 p.vars[j].lo,.int .i64 p.vars[j].hi,.int .i64 p.vars[j].perNode,.int .i64 p.vars[j].perID] 100))).drew;have HR1:=aA0 (HR.out.alloc (.cells #[.string p.vars[j].name,.int .i64 p.vars[j].kind,.int .i64 p.vars[j].lo,.int .i64 p.vars[j].hi,.int .i64 p.vars[j].perNode,.int .i64 p.vars[j].perID] 100)).drew
     have hcell:=aA0 (fun w' (kk:Fr gr (wr.alloc (.cells #[.string p.vars[j].name,.int .i64 p.vars[j].kind,.int .i64 p.vars[j].lo,.int .i64 p.vars[j].hi,.int .i64 p.vars[j].perNode,.int .i64 p.vars[j].perID] 100)) w')=>by
      have hB:=(Bel.refl wr).alloc (.cells #[.string p.vars[j].name,.int .i64 p.vars[j].kind,.int .i64 p.vars[j].lo,.int .i64 p.vars[j].hi,.int .i64 p.vars[j].perNode,.int .i64 p.vars[j].perID] 100);have hbx:=Blk.new wr #[.string p.vars[j].name,.int .i64 p.vars[j].kind,.int .i64 p.vars[j].lo,.int .i64 p.vars[j].hi,.int .i64 p.vars[j].perNode,.int .i64 p.vars[j].perID] 100;have hsz:=kk.1;simp only [World.size_alloc] at hsz
      have hn1:wr.heap.size≠gr:=by omega
      have hn2:w.heap.size+1≠gr:=by omega
      exact show w'.cell? ⟨gb,v,none⟩=some (.slice (some ⟨gr,0,none⟩) p.vars.length p.vars.length)/\w'.cell? ⟨wr.heap.size,0,none⟩=some (.string p.vars[j].name)/\w'.cell? ⟨wr.heap.size,1,none⟩=some (.int .i64 p.vars[j].kind)/\w'.cell? ⟨wr.heap.size,2,none⟩=some (.int .i64 p.vars[j].lo)/\w'.cell? ⟨wr.heap.size,3,none⟩=some (.int .i64 p.vars[j].hi)/\w'.cell? ⟨wr.heap.size,4,none⟩=some (.int .i64 p.vars[j].perNode)/\w'.cell? ⟨wr.heap.size,5,none⟩=some (.int .i64 p.vars[j].perID)/\w'.cell? ⟨w.heap.size+1,0,none⟩=some (.slice A3 g.ids.length k3)/\w'.cell? ⟨w.heap.size+1,1,none⟩=some (.slice A4 g.ports.length k4)/\gb<w'.heap.size/\wr.heap.size<w'.heap.size/\w.heap.size+1<w'.heap.size/\gr<w'.heap.size from
       ⟨(kk.cell (by simp;omega) hne).trans ((hB.cell hgbl).trans hhd),(kk.cell (by simp) hn1).trans (hbx.cell 0 rfl),(kk.cell (by simp) hn1).trans (hbx.cell 1 rfl),(kk.cell (by simp) hn1).trans (hbx.cell 2 rfl),(kk.cell (by simp) hn1).trans (hbx.cell 3 rfl),(kk.cell (by simp) hn1).trans (hbx.cell 4 rfl),(kk.cell (by simp) hn1).trans (hbx.cell 5 rfl),(kk.cell (by simp;omega) hn2).trans ((hB.cell (by omega)).trans g0),(kk.cell (by simp;omega) hn2).trans ((hB.cell (by omega)).trans g1),by omega,by omega,by omega,by omega⟩)
     have hfg:=aXm row j (by rw [HRL.out];exact hlt2)
     obtain ⟨f1,f2⟩:=aIn _ j _ hfg;have HF1':=aA0 f1;have HF2':=aA0 f2;have hjm:j*2<p.vars.length*2:=by omega
     have hdv:decide (v<g.ids.length)=true:=by simpa using hlt
     clear hfg f1 f2
     go_wp2_with fail
     replace HW1:=HW1.drew
     go_region_held3 (fun w'=>w'.cell? ⟨gb,v,none⟩=some (.slice (some ⟨gr,0,none⟩) p.vars.length p.vars.length)/\w'.cell? ⟨wr.heap.size,0,none⟩=some (.string p.vars[j].name)/\w'.cell? ⟨wr.heap.size,1,none⟩=some (.int .i64 p.vars[j].kind)/\w'.cell? ⟨wr.heap.size,2,none⟩=some (.int .i64 p.vars[j].lo)/\w'.cell? ⟨wr.heap.size,3,none⟩=some (.int .i64 p.vars[j].hi)/\w'.cell? ⟨wr.heap.size,4,none⟩=some (.int .i64 p.vars[j].perNode)/\w'.cell? ⟨wr.heap.size,5,none⟩=some (.int .i64 p.vars[j].perID)/\w'.cell? ⟨w.heap.size+1,0,none⟩=some (.slice A3 g.ids.length k3)/\w'.cell? ⟨w.heap.size+1,1,none⟩=some (.slice A4 g.ports.length k4)/\gb<w'.heap.size/\wr.heap.size<w'.heap.size/\w.heap.size+1<w'.heap.size/\gr<w'.heap.size)
      (first | exact hcell.out _ HG | exact hcell.out _ (HG.set _ _) | exact hcell.out _ ((HG.set _ _).set _ _))
      (first | (go_simp;go_at_call 103;refine (aIq p.vars[j] _ g v _ (HGV.out _ (aA1 HW1)) HNX.out HGO.out hvp HGL.out).mono ?_;rintro e w4 ⟨rfl,hbb⟩;replace HW1:=HW1.trans hbb;replace HG:=HG.trans (Fr.of_bel hbb);replace HR1:=aA0 (hbb.owns HR1.out);clear hbb;have y1:=(aDs HR1.out HF1'.out);have y2:=(aDs HR1.out HF2'.out);obtain ⟨q1,e1,_,_,y1,z1⟩:=y1;obtain ⟨q2,e2,_,_,y2,z2⟩:=y2;obtain rfl:gr=q1:=(by simpa using e1);obtain rfl:gr=q2:=(by simpa using e2);clear e1 e2))
     go_wp2_with fail
     go_roundg (p.vars.length-(j+1))
     case rel =>
      have hst:=((HR1.out.stored (j*2) (.int .i64 (aAo p.vars[j] g v).1)).1.stored (j*2+1) (.int .i64 (aAo p.vars[j] g v).2)).1;have e2:=aP0 (aL4 row j) j (row[j]'(by rw [HRL.out];exact hlt2)) (by rw [aRk,HRL.out];exact hlt2)
      rw [aVy _ _ (by rw [HRL.out];exact hlt2),HRJ.out] at e2
      rw [e2] at hst;refine ⟨j+1,by omega,rfl,by go_num,hst,?_,?_,?_⟩
      .exact aV4 (HO2.out.alloc _) ((HG.set _ _).set _ _) hne
      .exact (HF.alloc _).newer hgr0 ((HG.set _ _).set _ _)
      .exact (HW1.setCell (by simp;omega) _).setCell (by simp;omega) _
     case measure=>omega
    .have hd0:decide (j<p.vars.length)=false:=by simpa using hlt2
     obtain rfl:j=p.vars.length:=by omega
     go_wp2_with fail
     go_roundg (g.ids.length-(v+1))
     case rel =>
      refine ⟨v+1,_,by omega,rfl,by go_num,HO2,?_,HW⟩
      intro u hu
      rcases Nat.lt_or_ge u v with h | h
      .obtain ⟨gu,h1,h2,h3,h4⟩:=(HD.out.kept HF) u h
       exact ⟨gu,by rw [List.getElem?_set_ne (by omega)];exact h1,h2,h3,h4⟩
      .obtain rfl:u=v:=by omega
       refine ⟨gr,by rw [List.getElem?_set_self (by omega)],Ne.symm hne,(aBg HR.out).2,by have:=(aBg HR.out).1;omega,fun x i hx=>?_⟩
       have hR:=HR.out;rw [aVx _ _ (by rw [HRL.out];exact Nat.le_refl _)] at hR
       rw [HT.out _ hlt] at hx;obtain ⟨f1,f2⟩:=aIn row i ⟨x.1,x.2⟩ (by rw [HROW.out,List.getElem?_map,hx];rfl)
       obtain ⟨q1,e1,_,_,y1,_⟩:=aDs hR f1;obtain ⟨q2,e2,_,_,y2,_⟩:=aDs hR f2;obtain rfl:gr=q1:=by simpa using e1
       obtain rfl:gr=q2:=by simpa using e2
       exact ⟨y1,y2⟩
     case measure=>omega
  .have hd0:decide (v<g.ids.length)=false:=by simpa using hlt
   go_wp2_with fail
   go_ret;have hl:(aAz p g).length=g.ids.length:=by simp [aAz]
   refine ⟨_,rfl,fun W hW=>⟨some ⟨gb,0,none⟩,g.ids.length,by rw [hl];rfl,⟨rfl,fun u x hx=>?_⟩,by omega,by unfold maxLen;omega⟩,aA1 HW⟩
   have hu:u<g.ids.length:=by have:=(List.getElem?_eq_some_iff.1 hx).1;omega
   obtain ⟨gu,h1,h2,h3,h5,h4⟩:=HD.out u (by omega)
   obtain ⟨g',e1,_,hlt',hcell,_⟩:=aDs HO.out h1;obtain rfl:gb=g':=by simpa using e1
   have hrow:(aAz p g).getD u []=x:=by rw [List.getD_eq_getElem?_getD,hx];rfl
   have hxl:x.length=p.vars.length:=by rw [<- hrow,HT.out u hu];simp [aIx]
   refine ⟨gb,0,rfl,Nat.lt_of_lt_of_le hlt' hW.1,some ⟨gu,0,none⟩,p.vars.length,?_,⟨rfl,fun i y hy=>⟨gu,0,rfl,Nat.lt_of_lt_of_le h3 hW.1,?_⟩⟩,by omega,by unfold maxLen;omega⟩
   .rw [hxl,Nat.zero_add,Nat.mul_one,hW.cell (by omega) hlt'];exact hcell
   .have:=h4 y i (by rw [hrow];exact hy)
    rw [Nat.zero_add];exact ⟨(hW.cell h5 h3).trans this.1,(hW.cell h5 h3).trans this.2⟩
theorem aSt (v:Value) (p:Prg) (v2:Value) (g:Graph) (w:World) (h:aEi w v p) (h2:aAn w v2 g) (hc:aBr p=0) (hg:GOK g) (hG:aB3 g=true) :
  Calls prog 83 #[v,v2] w (aZf (aAz p g) w):=(aPs v p v2 g w h h2 hc hg hG).mono fun _ _ ⟨v,h1,h2,h3⟩=>⟨v,h1,h2 _ (aAx.refl _ _),h3⟩
def aEk (row:List (Int × Int)) (s:List Int):Bool:=decide (s.length=row.length)&&(List.range s.length).all fun i=>decide ((row.getD i (0,0)).1<=s.getD i 0/\s.getD i 0<=(row.getD i (0,0)).2)
def aH5 (t:List (List (Int × Int))) (c:aA6):Bool:=decide (c.length=t.length)&&(List.range c.length).all fun v=>aEk (t.getD v []) (c.getD v [])
def aD1 (p:Prg) (g:Graph) (c:aA6):Int:=if aHs p g≠0 then aHs p g else if aH5 (aAz p g) c=false then 10 else 0
theorem aCc {row:List (Int × Int)} {s:List Int}:aEk row s=true↔s.length=row.length/\∀ i,(h1:i<s.length)->(h2:i<row.length)->row[i].1<=s[i]/\s[i]<=row[i].2:=by
 unfold aEk;simp only [Bool.and_eq_true,decide_eq_true_eq,List.all_eq_true,List.mem_range]
 constructor
 .rintro ⟨h1,h2⟩
  refine ⟨h1,fun i a b=>?_⟩
  have:=h2 i a
  rwa [aA8 a,aA8 b] at this
 .rintro ⟨h1,h2⟩
  refine ⟨h1,fun i a=>?_⟩
  have:=h2 i a (by omega)
  rwa [aA8 a,aA8 (by omega)]
theorem aCd {t:List (List (Int × Int))} {c:aA6}:aH5 t c=true↔c.length=t.length/\∀ v,(h1:v<c.length)->(h2:v<t.length)->aEk t[v] c[v]=true:=by
 unfold aH5;simp only [Bool.and_eq_true,decide_eq_true_eq,List.all_eq_true,List.mem_range]
 constructor
 .rintro ⟨h1,h2⟩
  refine ⟨h1,fun i a b=>?_⟩
  have:=h2 i a
  rwa [aA8 a,aA8 b] at this
 .rintro ⟨h1,h2⟩
  refine ⟨h1,fun i a=>?_⟩
  have:=h2 i a (by omega)
  rwa [aA8 a,aA8 (by omega)]
theorem aM4 {row:List (Int × Int)} {s:List Int} (h:¬ (s.length=row.length/\∀ i,(h1:i<s.length)->(h2:i<row.length)->row[i].1<=s[i]/\s[i]<=row[i].2)):aEk row s=false:=by
 rw [Bool.eq_false_iff];intro hb;exact h (aCc.1 hb)
theorem aFq {t:List (List (Int × Int))} {c:aA6} (h:¬ (c.length=t.length/\∀ v,(h1:v<c.length)->(h2:v<t.length)->aEk t[v] c[v]=true)):aH5 t c=false:=by
 rw [Bool.eq_false_iff];intro hb;exact h (aCd.1 hb)
theorem aQk {a b:Nat} (h:a≠b):(a != b)=true/\((a:Int) != (b:Int))=true:=⟨by simpa using h,by simp;omega⟩
theorem aBb {c:aA6} (h:aBs c=true):c.length<=30/\∀ r∈c,r.length<=10:=by
 unfold aBs at h;simp at h
 exact h
theorem aSs (A:Option Addr) (c:Nat) (row:List (Int × Int)) (B:Option Addr) (c2:Nat) (s:List Int) (w:World) (h1:aLk w A row.length row) (h2:aBm w B s.length s) (hl:s.length<=1000) :
  Calls prog 104 #[.slice A row.length c,.slice B s.length c2] w fun e w'=>e = .returned (.bool (aEk row s))/\w=w':=by
 have H1:=aA0 h1;clear h1;have H2:=aA0 h2;clear h2
 by_cases hn:s.length=row.length
 .have HN:=aA0 hn
  rw [<- hn] at H1 ⊢;clear hn;have hb:(s.length != s.length)=false:=by simp
  go_enter func104,ntmps104;go_wp2;clear hb
  go_loopg [5,6,14] s.length (fun m _x _y z wr=>∃ j:Nat,j<=s.length/\m=s.length-j/\z = .int .i64 j/\Hid (∀ i,i<j->(h1:i<s.length)->(h2:i<row.length)->row[i].1<=s[i]/\s[i]<=row[i].2)/\w=wr)
  case atStart=>exact ⟨0,by omega,rfl,rfl,fun i hi=>absurd hi (by omega),rfl⟩
  case round =>
   obtain ⟨j,hj,rfl,rfl,HJ,rfl⟩:=hrel
   by_cases hlt:j<s.length
   .have hd0:decide (j<s.length)=true:=by simpa using hlt
    have hlt2:j<row.length:=by rw [<- HN.out];exact hlt
    obtain ⟨b,o,rfl,hb,hc⟩:=H2.out.at_ j hlt;obtain ⟨b',o',rfl,hb',k1,k2⟩:=H1.out.at_ j hlt2
    by_cases hr:row[j].1<=s[j]/\s[j]<=row[j].2
    .have d1:decide (s[j]<row[j].1)=false:=by simp;omega
     have d2:decide (row[j].2<s[j])=false:=by simp;omega
     have HR:=aA0 hr;clear hr
     go_wp2_with fail
     go_roundg (s.length-(j+1))
     case rel =>
      refine ⟨j+1,by omega,rfl,by go_num,?_,rfl⟩
      intro i hi a1 a2
      rcases Nat.lt_or_ge i j with h | h
      .exact HJ.out i h a1 a2
      .obtain rfl:i=j:=by omega
       exact HR.out
     case measure=>omega
    .have HF:Hid (aEk row s=false):=aM4 fun h=>hr (h.2 j hlt hlt2)
     by_cases h1:s[j]<row[j].1
     .have d1:decide (s[j]<row[j].1)=true:=by simpa using h1
      clear hr
      go_wp2_with fail
      go_ret;exact ⟨aA2 HF.out.symm,rfl⟩
     .have d1:decide (s[j]<row[j].1)=false:=by simpa using h1
      have d2:decide (row[j].2<s[j])=true:=by simp;omega
      clear hr
      go_wp2_with fail
      go_ret;exact ⟨aA2 HF.out.symm,rfl⟩
   .have hd0:decide (j<s.length)=false:=by simpa using hlt
    go_wp2_with fail
    go_ret;refine ⟨aA2 ?_,rfl⟩
    symm
    rw [aCc];exact ⟨HN.out,fun i a b=>HJ.out i (by omega) a b⟩
 .obtain ⟨n1,n2⟩:=aQk hn
  have HF:Hid (aEk row s=false):=aM4 fun h=>hn h.1;clear hn;go_enter func104,ntmps104;go_wp2;go_ret;exact ⟨aA2 HF.out.symm,rfl⟩
theorem aKe (v:Value) (t:List (List (Int × Int))) (v2:Value) (c:aA6) (w:World) (h1:aJ3 w v t) (h2:aAw w v2 c) (hl:aBs c=true) :
  Calls prog 82 #[v,v2] w fun e w'=>e = .returned (.bool (aH5 t c))/\w=w':=by
 obtain ⟨A,k,rfl,hT,_,_⟩:=h1;obtain ⟨B,k2,rfl,hC,_,_⟩:=h2;have H1:=aA0 hT;clear hT;have H2:=aA0 hC;clear hC;obtain ⟨l1,l2⟩:=aBb hl;have HL2:=aA0 l2;clear l2 hl
 by_cases hn:c.length=t.length
 .have HN:=aA0 hn
  rw [<- hn] at H1 ⊢;clear hn;have hb:(c.length != c.length)=false:=by simp
  go_enter func82,ntmps82;go_wp2;clear hb
  go_loopg [5,6,14] c.length (fun m _x _y z wr=>∃ j:Nat,j<=c.length/\m=c.length-j/\z = .int .i64 j/\Hid (∀ i,i<j->(h1:i<c.length)->(h2:i<t.length)->aEk t[i] c[i]=true)/\w=wr)
  case atStart=>exact ⟨0,by omega,rfl,rfl,fun i hi=>absurd hi (by omega),rfl⟩
  case round =>
   obtain ⟨j,hj,rfl,rfl,HJ,rfl⟩:=hrel
   by_cases hlt:j<c.length
   .have hd0:decide (j<c.length)=true:=by simpa using hlt
    have hlt2:j<t.length:=by rw [<- HN.out];exact hlt
    obtain ⟨b,o,R,rc,rfl,hb,hc,hI,_,_⟩:=H2.out.at_ j hlt;obtain ⟨b',o',R',rc',rfl,hb',hc',hP,_,_⟩:=H1.out.at_ j hlt2;have HI:=aA0 hI;have HP:=aA0 hP;have hle:=HL2.out _ (List.getElem_mem hlt);clear hI hP;cases hs:aEk t[j] c[j] with
    | true =>
     have HS:=aA0 hs;clear hs
     go_wp2_with (go_at_call 104;refine (aSs _ _ t[j] _ _ c[j] _ HP.out HI.out (by omega)).mono ?_;rintro e w' ⟨rfl,rfl⟩;rw [HS.out])
     go_roundg (c.length-(j+1))
     case rel =>
      refine ⟨j+1,by omega,rfl,by go_num,?_,rfl⟩
      intro i hi a1 a2
      rcases Nat.lt_or_ge i j with h | h
      .exact HJ.out i h a1 a2
      .obtain rfl:i=j:=by omega
       exact HS.out
     case measure=>omega
    | false =>
     have HF:Hid (aH5 t c=false):=aFq fun h=>by have:=h.2 j hlt hlt2;rw [hs] at this;cases this
     have HS:=aA0 hs;clear hs
     go_wp2_with (go_at_call 104;refine (aSs _ _ t[j] _ _ c[j] _ HP.out HI.out (by omega)).mono ?_;rintro e w' ⟨rfl,rfl⟩;rw [HS.out])
     go_ret;exact ⟨aA2 HF.out.symm,rfl⟩
   .have hd0:decide (j<c.length)=false:=by simpa using hlt
    go_wp2_with fail
    go_ret;refine ⟨aA2 ?_,rfl⟩
    symm
    rw [aCd];exact ⟨HN.out,fun i a b=>HJ.out i (by omega) a b⟩
 .obtain ⟨n1,n2⟩:=aQk hn
  have HF:Hid (aH5 t c=false):=aFq fun h=>hn h.1;clear hn;go_enter func82,ntmps82;go_wp2;go_ret;exact ⟨aA2 HF.out.symm,rfl⟩
theorem aAp {p:Prg} {g:Graph} (h:aHs p g=0):aBr p=0/\GOK g/\p.vars.all (aH7 g)=true:=by
 unfold aHs at h;split at h
 .cases h
 .rename_i h1
  split at h
  .cases h
  .rename_i h2
   split at h
   .cases h
   .rename_i h3
    exact ⟨by simpa using h1,(aDj g).1 (by simpa using h2),by simpa using h3⟩
theorem aG8 (v:Value) (p:Prg) (v2:Value) (g:Graph) (v3:Value) (c:aA6) (w:World) (h:aEi w v p) (h2:aAn w v2 g) (h3:aAw w v3 c) (hL:aAu p=true) (hG:aB3 g=true) (hC:aBs c=true) :
  Calls prog 58 #[v,v2,v3] w fun e w'=>e = .returned (.int .i64 (aD1 p g c))/\Bel w w':=by
 have HPV:=aA0 (fun w' (k:Bel w w')=>h.keep k);have HGV:=aA0 (fun w' (k:Bel w w')=>h2.keep k);have HCV:=aA0 (fun w' (k:Bel w w')=>h3.keep k);obtain ⟨A,k,A2,k2,rfl,_,_,_,_,_,_⟩:=h;obtain ⟨A3,k3,A4,k4,rfl,_,_,_,_,_,_⟩:=h2;obtain ⟨A5,k5,rfl,_,_,_⟩:=h3;have HL:=aA0 hL;have HGL:=aA0 hG;have HCL:=aA0 hC;clear hL hG hC;have HW:=Bel.refl ((w.alloc (.cells #[.string p.name,.slice A p.vars.length k,.slice A2 p.rules.length k2] 25)).alloc (.cells #[.slice A3 g.ids.length k3,.slice A4 g.ports.length k4] 29))
 by_cases hf:aHs p g=0
 .obtain ⟨f1,f2,_⟩:=aAp hf
  have HF1:=aA0 f1;have HF2:=aA0 f2;have HFZ:=aA0 hf;have HM:Hid (aD1 p g c=if aH5 (aAz p g) c=false then 10 else 0):=by show aD1 p g c=_;unfold aD1;rw [if_neg (by simpa using hf)]
  clear hf f1 f2;cases hb:aH5 (aAz p g) c with
  | true =>
   rw [hb,if_neg (by decide)] at HM
   have HBB:=aA0 hb;clear hb;go_enter func58,ntmps58
   go_wp2_with (first
    | (go_at_call 81;refine (aQa _ p _ g _ (HPV.out _ (aA1 HW)) (HGV.out _ (aA1 HW)) HL.out HGL.out).mono ?_;rintro e w' ⟨rfl,hb⟩;rw [HFZ.out];replace HW:=HW.trans hb;clear hb;obtain ⟨p0,p1,p2,g0,g1,gsz⟩:=aAd HW)
    | (go_at_call 83;refine (aSt _ p _ g _ (HPV.out _ (aA1 HW)) (HGV.out _ (aA1 HW)) HF1.out HF2.out HGL.out).mono ?_;rintro e w' ⟨tv,rfl,htv,hb⟩;replace HW:=HW.trans hb;have HTV:=aA0 htv;clear hb htv)
    | (go_at_call 82;refine (aKe _ (aAz p g) _ c _ HTV.out (HCV.out _ (aA1 HW)) HCL.out).mono ?_;rintro e w' ⟨rfl,rfl⟩;rw [HBB.out]))
   go_ret;exact ⟨aA5 HM.out.symm,aA1 HW⟩
  | false =>
   rw [hb,if_pos rfl] at HM;have HBB:=aA0 hb;clear hb;go_enter func58,ntmps58
   go_wp2_with (first
    | (go_at_call 81;refine (aQa _ p _ g _ (HPV.out _ (aA1 HW)) (HGV.out _ (aA1 HW)) HL.out HGL.out).mono ?_;rintro e w' ⟨rfl,hb⟩;rw [HFZ.out];replace HW:=HW.trans hb;clear hb;obtain ⟨p0,p1,p2,g0,g1,gsz⟩:=aAd HW)
    | (go_at_call 83;refine (aSt _ p _ g _ (HPV.out _ (aA1 HW)) (HGV.out _ (aA1 HW)) HF1.out HF2.out HGL.out).mono ?_;rintro e w' ⟨tv,rfl,htv,hb⟩;replace HW:=HW.trans hb;have HTV:=aA0 htv;clear hb htv)
    | (go_at_call 82;refine (aKe _ (aAz p g) _ c _ HTV.out (HCV.out _ (aA1 HW)) HCL.out).mono ?_;rintro e w' ⟨rfl,rfl⟩;rw [HBB.out]))
   go_ret;exact ⟨aA5 HM.out.symm,aA1 HW⟩
 .have HM:Hid (aD1 p g c=aHs p g):=by show aD1 p g c=_;unfold aD1;rw [if_pos hf]
  have hfb:(aHs p g != 0)=true:=by simpa using hf
  go_enter func58,ntmps58
  go_wp2_with (go_at_call 81;refine (aQa _ p _ g _ (HPV.out _ (aA1 HW)) (HGV.out _ (aA1 HW)) HL.out HGL.out).mono ?_;rintro e w' ⟨rfl,hb⟩;replace HW:=HW.trans hb;clear hb)
  go_ret;exact ⟨aA5 HM.out.symm,aA1 HW⟩
end Go.Proofs.YtdcjnhoabbdanaaGreatDoor

