/- Merged. -/
import Derived.Test.YtmifhmdghfbalaaGreatDoorZ10
import Derived.Test.YtmifhmdghfbalaaGreatDoorZ12
import Derived.Laws.EntriesVeiled
set_option linter.unusedSimpArgs false
set_option linter.unnecessarySimpa false
set_option linter.unusedVariables false
set_option maxRecDepth 100000
set_option maxHeartbeats 4000000
open Go.Proofs.Tryz

namespace Go.Proofs.YtmifhmdghfbalaaGreatDoor
open Go.RowKit
theorem bAg {n:Nat} (h:1<=n):decide (n<1)=false:=by simp;omega
theorem bA7 {n:Nat} (h:1<=n):decide ((n:Int)<1)=false:=by simp;omega
theorem bJb {n:Nat} (h:n<1):decide (n<1)=true:=by simp;omega
theorem bJ1 {n:Nat} (h:n<1):decide ((n:Int)<1)=true:=by simp;omega
theorem aM0 (v:Value) (g:Graph) (w:World) (h:aAl w v g) (hlg:aB3 g=true) :
  Calls prog 202 #[v] w fun e w'=>e = .returned (.bool (aFz g))/\Bel w w':=by
 obtain ⟨A,k,A2,k2,rfl,hI,_,_,hP,_,_⟩:=h;have HI:=aA1 (fun w' (k:Bel w w')=>aB7.keep hI k);clear hI;have HP:=aA1 (fun w' (k:Bel w w')=>aH0.keep hP k);clear hP;obtain ⟨hl1,hl2,hl3⟩:=aE2 hlg;have HL3:=aA1 hl3;clear hl3 hlg;have HG:=aA1 (bDe g);have HB:=Bel.refl (w.alloc (.cells #[.slice A g.ids.length k,.slice A2 g.ports.length k2] 29))
 by_cases hn:1<=g.ports.length/\g.ports.length<=24/\g.ids.length=g.ports.length
 .have hd1:decide (g.ids.length<1)=false:=bAg (by omega)
  have hd2:decide (24<g.ids.length)=false:=by simp;omega
  have hd3:(g.ports.length != g.ids.length)=false:=by simp;omega
  have hd3':((g.ports.length:Int) != (g.ids.length:Int))=false:=by simp;omega
  have hd1':decide ((g.ids.length:Int)<1)=false:=bA7 (by omega)
  rw [decide_eq_true hn] at HG;have hn1:1<=g.ids.length:=by omega
  have hn2:g.ids.length<=24:=by omega
  clear hn;cases hi:aSs g.ids with
  | false =>
   go_enter func202,ntmps202
   go_wp2_with (go_at_call 243;refine (aK6 _ _ g.ids _ (HI.out _ (aA3 HB)) (by omega)).mono ?_;rintro e w' ⟨rfl,hb⟩;rw [hi];replace HB:=HB.trans hb;clear hb)
   go_ret;exact ⟨aA2 (by rw [HG.out,hi];rfl),aA3 HB⟩
  | true =>
   have HII:=aA1 hi;clear hi;go_enter func202,ntmps202
   go_wp2_with (first
    | (go_at_call 243;refine (aK6 _ _ g.ids _ (HI.out _ (aA3 HB)) (by omega)).mono ?_;rintro e w' ⟨rfl,hb⟩;rw [HII.out];replace HB:=HB.trans hb;clear hb;have q1:=aA9 HB 1 rfl;have q2:=aAz HB)
    | (go_at_call 244;refine (aW4 _ _ g.ports _ (HP.out _ (aA3 HB)) (by omega) HL3.out).mono ?_;rintro e w' ⟨rfl,hb⟩;replace HB:=HB.trans hb;clear hb))
   go_ret;exact ⟨aA2 (by rw [HG.out,HII.out];rfl),aA3 HB⟩
 .rw [decide_eq_false hn] at HG
  by_cases h1:g.ids.length<1
  .have hd1:decide (g.ids.length<1)=true:=bJb h1
   have hd1':decide ((g.ids.length:Int)<1)=true:=bJ1 h1;clear hn;go_enter func202,ntmps202
   go_wp2_with fail
   go_ret;exact ⟨aA2 (by rw [HG.out];rfl),aA3 HB⟩
  .have hd1:decide (g.ids.length<1)=false:=bAg (by omega)
   have hd1':decide ((g.ids.length:Int)<1)=false:=bA7 (by omega)
   by_cases h2:24<g.ids.length
   .have hd2:decide (24<g.ids.length)=true:=by simpa using h2
    clear hn;go_enter func202,ntmps202
    go_wp2_with fail
    go_ret;exact ⟨aA2 (by rw [HG.out];rfl),aA3 HB⟩
   .have hd2:decide (24<g.ids.length)=false:=by simpa using h2
    have hd3:(g.ports.length != g.ids.length)=true:=by simp;omega
    have hd3':((g.ports.length:Int) != (g.ids.length:Int))=true:=by simp;omega
    clear hn;go_enter func202,ntmps202
    go_wp2_with fail
    go_ret;exact ⟨aA2 (by rw [HG.out];rfl),aA3 HB⟩
theorem aIl {l:List Int} {k:Nat} (h:k<l.length):aEo (l.take (k+1))=max (aEo (l.take k)) l[k]:=by
 unfold aEo;rw [List.take_succ_eq_append_getElem h,List.foldl_append];rfl
theorem aW0 (A:Option Addr) (c:Nat) (ids:List Int) (w:World) (h:aB7 w A ids.length ids) (hl:ids.length<=1000) (hp:1<=ids.length) (h0:∀ i∈ids,0<=i) :
  Calls prog 246 #[.slice A ids.length c] w fun e w'=>e = .returned (.int .i64 (aEo ids))/\w=w':=by
 have H:=aA1 h;clear h;have hz:decide (ids.length<1)=false:=bAg hp;have hz':decide ((ids.length:Int)<1)=false:=bA7 hp;obtain ⟨b,o,rfl,hb,hc⟩:=H.out.at_ 0 (by omega)
 have hpos:0<ids.length:=by omega
 simp only [Nat.add_zero] at hc
 have HS:Hid (aEo (ids.take 1)=ids[0]):=by
  show aEo (ids.take 1)=ids[0]
  rw [aIl (k:=0) (by omega)]
  have:=h0 ids[0] (List.getElem_mem _);simp [aEo];omega
 clear h0;go_enter func246,ntmps246;go_wp2;clear hz hz' hc
 go_loopg [3,4] (ids.length-1) (fun m s z wr=>∃ j:Nat,j<=ids.length/\m=ids.length-j/\z = .int .i64 j/\s = .int .i64 (aEo (ids.take j))/\w=wr)
 case atStart=>exact ⟨1,by omega,rfl,rfl,by rw [HS.out],rfl⟩
 case round =>
  obtain ⟨j,hj,rfl,rfl,rfl,rfl⟩:=hrel
  by_cases hlt:j<ids.length
  .have hd0:decide (j<ids.length)=true:=by simpa using hlt
   obtain ⟨b',o',e',_,hc⟩:=H.out.at_ j hlt;obtain ⟨rfl,rfl⟩:b=b'/\o=o':=by simpa using e'
   have HN:=aA1 (aIl hlt);generalize aEo (ids.take j)=G at *;obtain ⟨m,hm,hm'⟩:=aJk G ids[j];have HM:=aA1 hm';clear hm' e';go_wp2
   go_roundg (ids.length-(j+1))
   case rel=>exact ⟨j+1,by omega,rfl,by go_num,by rw [HN.out,<- HM.out],rfl⟩
   case measure=>omega
  .have hd0:decide (j<ids.length)=false:=by simpa using hlt
   go_wp2;go_ret;exact ⟨aA4 (by rw [List.take_of_length_le (by omega)]),rfl⟩
theorem aP7 (v:Value) (g:Graph) (w:World) (h:aAl w v g) (hl:g.ids.length<=1000) :
  Calls prog 186 #[v] w fun e w'=>e = .returned (.int .i64 (aEo g.ids))/\Bel w w':=by
 obtain ⟨A,k,A2,k2,rfl,hI,_,_,hP,_,_⟩:=h;have H:=aA1 hI;clear hI hP;go_enter func186,ntmps186;go_wp2
 go_loopg [3,4] g.ids.length (fun m s z wr=>∃ j:Nat,j<=g.ids.length/\m=g.ids.length-j/\z = .int .i64 j/\s = .int .i64 (aEo (g.ids.take j))/\w.alloc (.cells #[.slice A g.ids.length k,.slice A2 g.ports.length k2] 29)=wr)
 case atStart=>exact ⟨0,by omega,rfl,rfl,rfl,rfl⟩
 case round =>
  obtain ⟨j,hj,rfl,rfl,rfl,rfl⟩:=hrel
  by_cases hlt:j<g.ids.length
  .have hd0:decide (j<g.ids.length)=true:=by simpa using hlt
   obtain ⟨b,o,rfl,hb,hc⟩:=H.out.at_ j hlt;have HN:=aA1 (aIl hlt);generalize aEo (g.ids.take j)=G at *;obtain ⟨m,hm,hm'⟩:=aJk G g.ids[j];have HM:=aA1 hm';clear hm';go_wp2
   go_roundg (g.ids.length-(j+1))
   case rel=>exact ⟨j+1,by omega,rfl,by go_num,by rw [HN.out,<- HM.out],rfl⟩
   case measure=>omega
  .have hd0:decide (j<g.ids.length)=false:=by simpa using hlt
   go_wp2;go_ret;exact ⟨aA4 (by rw [List.take_of_length_le (by omega)]),(Bel.refl _).alloc _⟩
def aAg (x:Var) (g:Graph) (v:Nat):Int × Int :=
 if x.kind=2 then (0,1) else if x.kind=3 then (-1,((g.ports.getD v []).length:Int)-1) else (x.lo,x.hi+x.perNode*g.ids.length+x.perID*aEo g.ids)
theorem aLf {g:Graph} (hg:GOK g):0<=aEo g.ids/\aEo g.ids<=255:=⟨aMg _,bA5 _ _ (by omega) (fun x hx=>(hg.idr x hx).2)⟩
theorem aE3 {a b A B:Int} (h1:0<=a) (h2:a<=A) (h3:0<=b) (h4:b<=B):0<=a*b/\a*b<=A*B :=
 ⟨Int.mul_nonneg h1 h3,Int.mul_le_mul h2 h4 h3 (by omega)⟩
theorem box3 {w wr:World} {cs ds es:Array Value} {t u s:TypeId} (h:Bel (((w.alloc (.cells cs t)).alloc (.cells ds u)).alloc (.cells es s)) wr) :
  (∀ i v,cs[i]?=some v->wr.cell? ⟨w.heap.size,i,none⟩=some v)/\(∀ i v,ds[i]?=some v->wr.cell? ⟨w.heap.size+1,i,none⟩=some v)/\(∀ i v,es[i]?=some v->wr.cell? ⟨w.heap.size+1+1,i,none⟩=some v)/\w.heap.size+1+1<wr.heap.size:=by
 have h2:=bK0 (w:=w.alloc (.cells cs t)) h;simp only [World.size_alloc] at h2
 refine ⟨fun i v hv=>?_,h2.1,h2.2.1,h2.2.2⟩
 exact (h.cell (by simp;omega)).trans ((((Blk.new w cs t).alloc _).alloc _).cell i hv)
theorem box3v {w wr:World} {a0 a1 a2 a3 a4 a5 b0 b1 d0 d1 d2 d3 d4 d5:Value} {t u s:TypeId} (h:Bel (((w.alloc (.cells #[a0,a1,a2,a3,a4,a5] t)).alloc (.cells #[b0,b1] u)).alloc (.cells #[d0,d1,d2,d3,d4,d5] s)) wr) :
  (wr.cell? ⟨w.heap.size,0,none⟩=some a0/\wr.cell? ⟨w.heap.size,1,none⟩=some a1/\wr.cell? ⟨w.heap.size,2,none⟩=some a2/\wr.cell? ⟨w.heap.size,3,none⟩=some a3/\wr.cell? ⟨w.heap.size,4,none⟩=some a4/\wr.cell? ⟨w.heap.size,5,none⟩=some a5) /\
  (wr.cell? ⟨w.heap.size+1,0,none⟩=some b0/\wr.cell? ⟨w.heap.size+1,1,none⟩=some b1) /\
  (wr.cell? ⟨w.heap.size+1+1,0,none⟩=some d0/\wr.cell? ⟨w.heap.size+1+1,1,none⟩=some d1/\wr.cell? ⟨w.heap.size+1+1,2,none⟩=some d2/\wr.cell? ⟨w.heap.size+1+1,3,none⟩=some d3/\wr.cell? ⟨w.heap.size+1+1,4,none⟩=some d4/\wr.cell? ⟨w.heap.size+1+1,5,none⟩=some d5) /\
  w.heap.size<wr.heap.size/\w.heap.size+1<wr.heap.size/\w.heap.size+1+1<wr.heap.size:=by
 obtain ⟨c1,c2,c3,c4⟩:=box3 h;exact ⟨⟨c1 0 _ rfl,c1 1 _ rfl,c1 2 _ rfl,c1 3 _ rfl,c1 4 _ rfl,c1 5 _ rfl⟩,⟨c2 0 _ rfl,c2 1 _ rfl⟩,⟨c3 0 _ rfl,c3 1 _ rfl,c3 2 _ rfl,c3 3 _ rfl,c3 4 _ rfl,c3 5 _ rfl⟩,by omega,by omega,c4⟩
theorem aFq {x:Var} (h:aCc x=true):(x.kind=2/\x.lo=0/\x.hi=0/\x.perNode=0/\x.perID=0)∨(x.kind=3/\x.lo=0/\x.hi=0/\x.perNode=0/\x.perID=0)∨(x.kind=1/\(0<=x.lo/\x.lo<=4096)/\(0<=x.perNode/\x.perNode<=255)/\(0<=x.perID/\x.perID<=255) /\ -4096<=x.hi/\x.hi<=4096):=by
 unfold aCc at h;have:=of_decide_eq_true h;omega
theorem aZp (x:Var) (v2:Value) (g:Graph) (i:Int) (w:World) (h2:aAl w v2 g) (hx:aCc x=true) (hg:GOK g) :
  Calls prog 245 #[bEn x,v2,.int .i64 i] w fun e w'=>e = .returned (.tuple #[.int .i64 x.lo,.int .i64 (x.hi+x.perNode*g.ids.length+x.perID*aEo g.ids)])/\Bel w w':=by
 obtain ⟨A,k,A2,k2,rfl,hI,_,_,hP,_,_⟩:=h2;have HI:=aA1 (fun w' (k:Bel w w')=>aB7.keep hI k)
 have hb:(0<=x.perNode/\x.perNode<=255)/\(0<=x.perID/\x.perID<=255) /\ -4096<=x.hi/\x.hi<=4096:=by
  rcases aFq hx with h | h | h <;> omega
 have hle:=hg.le;have hids:=hg.ids;obtain ⟨g1,g2⟩:=aLf hg;obtain ⟨m1,m2⟩:=aE3 hb.1.1 hb.1.2 (show (0:Int)<=g.ids.length by omega) (show (g.ids.length:Int)<=24 by omega)
 obtain ⟨m3,m4⟩:=aE3 hb.2.1.1 hb.2.1.2 g1 g2;have w1:IntKind.i64.wrap (x.perNode*(g.ids.length:Int))=x.perNode*g.ids.length:=IntWalk.i64_in _ (by omega)
 have w2:IntKind.i64.wrap (x.hi+x.perNode*(g.ids.length:Int))=x.hi+x.perNode*g.ids.length:=IntWalk.i64_in _ (by omega)
 have w3:IntKind.i64.wrap (x.perID*aEo g.ids)=x.perID*aEo g.ids:=IntWalk.i64_in _ (by omega)
 have w4:IntKind.i64.wrap (x.hi+x.perNode*(g.ids.length:Int)+x.perID*aEo g.ids)=x.hi+x.perNode*g.ids.length+x.perID*aEo g.ids:=IntWalk.i64_in _ (by omega)
 have hpos:1<=g.ids.length:=by have:=hg.pos;omega
 have hn24:g.ids.length<=24:=by omega
 have HR:=aA1 (fun i hi=>(hg.idr i hi).1);clear hI hP hx hg m1 m2 m3 m4 hids hle;obtain ⟨name,kind,lo,hi,pn,pi⟩:=x;unfold bEn;dsimp only at *;have HW:=Bel.refl ((w.alloc (.cells #[.string name,.int .i64 kind,.int .i64 lo,.int .i64 hi,.int .i64 pn,.int .i64 pi] 159)).alloc (.cells #[.slice A g.ids.length k,.slice A2 g.ports.length k2] 29));have hcell:=aA1 (fun w' (kk:Bel ((w.alloc (.cells #[.string name,.int .i64 kind,.int .i64 lo,.int .i64 hi,.int .i64 pn,.int .i64 pi] 159)).alloc (.cells #[.slice A g.ids.length k,.slice A2 g.ports.length k2] 29)) w')=>And.intro ((bK0 kk).1 2 _ rfl) (And.intro ((bK0 kk).1 3 _ rfl) (And.intro ((bK0 kk).1 4 _ rfl) (And.intro ((bK0 kk).1 5 _ rfl) (And.intro ((bK0 kk).2.1 0 _ rfl) (bK0 kk).2.2)))));go_enter func245,ntmps245;go_wp2;replace HW:=HW.drew
 go_region_held3 (fun w'=>w'.cell? ⟨w.heap.size,2,none⟩=some (.int .i64 lo)/\w'.cell? ⟨w.heap.size,3,none⟩=some (.int .i64 hi)/\w'.cell? ⟨w.heap.size,4,none⟩=some (.int .i64 pn)/\w'.cell? ⟨w.heap.size,5,none⟩=some (.int .i64 pi)/\w'.cell? ⟨w.heap.size+1,0,none⟩=some (.slice A g.ids.length k)/\w.heap.size+1<w'.heap.size) (exact hcell.out _ HW) (first | (go_simp;go_at_call 246;refine (aW0 _ _ g.ids _ (HI.out _ (aA0 HW)) (by omega) hpos HR.out).mono ?_;rintro e w' ⟨rfl,rfl⟩))
 go_wp2
 go_ret2
 exact ⟨rfl,aA0 HW⟩
theorem aZq (x:Var) (v2:Value) (g:Graph) (i:Int) (w:World) (h2:aAl w v2 g) :
  Calls prog 247 #[bEn x,v2,.int .i64 i] w fun e w'=>e = .returned (.tuple #[.int .i64 0,.int .i64 1])/\Bel w w':=by
 obtain ⟨A,k,A2,k2,rfl,_,_,_,_,_,_⟩:=h2;unfold bEn;go_enter func247,ntmps247;go_wp2
 go_ret2
 exact ⟨rfl,((Bel.refl _).alloc _).alloc _⟩
theorem aZr (x:Var) (v2:Value) (g:Graph) (i:Nat) (w:World) (h2:aAl w v2 g) (hi:i<g.ports.length) (hl:aB3 g=true) :
  Calls prog 248 #[bEn x,v2,.int .i64 i] w fun e w'=>e = .returned (.tuple #[.int .i64 (-1),.int .i64 ((g.ports[i].length:Int)-1)])/\Bel w w':=by
 obtain ⟨A,k,A2,k2,rfl,_,_,_,hP,_,_⟩:=h2;obtain ⟨b,o,R,c1,rfl,hb,hc1,_,_,_⟩:=hP.at_ i hi;obtain ⟨_,l2,l3⟩:=aE2 hl;have hlen:=l3 _ (List.getElem_mem hi);have hd:decide (i<g.ports.length)=true:=by simpa using hi
 have hw:IntKind.i64.wrap ((g.ports[i].length:Int)-1)=(g.ports[i].length:Int)-1:=IntWalk.i64_in _ (by omega)
 clear hP l3 hl;unfold bEn;go_enter func248,ntmps248;go_wp2
 go_quiet (fail)
 go_wp2
 go_ret2
 exact ⟨rfl,(((Bel.refl _).alloc _).alloc _).drewN _⟩
theorem aLc (x:Var) (v2:Value) (g:Graph) (i:Nat) (w:World) (h2:aAl w v2 g) (hx:aCc x=true) (hg:GOK g) (hi:i<g.ports.length) (hl:aB3 g=true) :
  Calls prog 203 #[bEn x,v2,.int .i64 i] w fun e w'=>e = .returned (.tuple #[.int .i64 (aAg x g i).1,.int .i64 (aAg x g i).2])/\Bel w w':=by
 have HGV:=aA1 (fun w' (k:Bel w w')=>h2.keep k);obtain ⟨A,k,A2,k2,rfl,hI,_,_,hP,_,_⟩:=h2;have HX:=aA1 hx;have HG:=aA1 hg;have HL:=aA1 hl;have hk:x.kind=1∨x.kind=2∨x.kind=3:=by rcases aFq hx with h | h | h <;> omega
 have HF:Hid (aAg x g i=if x.kind=2 then (0,1) else if x.kind=3 then (-1,(g.ports[i].length:Int)-1) else (x.lo,x.hi+x.perNode*g.ids.length+x.perID*aEo g.ids)):=by
  show aAg x g i=_
  unfold aAg;rw [aA7 hi]
 clear hI hP hx hg hl;unfold bEn;go_enter func203,ntmps203;go_wp2
 go_loopg [10,17] 3 (fun m _y z wr=>∃ j:Nat,j<3/\m=3-j/\z = .int .i64 j/\(j:Int)+1<=x.kind/\Bel (((w.alloc (.cells #[.string x.name,.int .i64 x.kind,.int .i64 x.lo,.int .i64 x.hi,.int .i64 x.perNode,.int .i64 x.perID] 159)).alloc (.cells #[.slice A g.ids.length k,.slice A2 g.ports.length k2] 29)).alloc (.cells #[.int .i64 1,.func (.func 245) #[] #[],.int .i64 2,.func (.func 247) #[] #[],.int .i64 3,.func (.func 248) #[] #[]] 270)) wr)
 case atStart=>exact ⟨0,by omega,rfl,rfl,by omega,Bel.refl _⟩
 case round =>
  obtain ⟨j,hj,rfl,rfl,hjk,HB⟩:=hrel;obtain ⟨⟨x0,x1,x2,x3,x4,x5⟩,⟨y0,y1⟩,⟨z0,z1,z2,z3,z4,z5⟩,s1,s2,s3⟩:=box3v HB;have HB0:Bel w wr:=aA3 (aA3 (aA3 HB))
  rcases (show j=0∨j=1∨j=2 by omega) with rfl | rfl | rfl
  .have HB2:=HB.alloc (.cells #[.int .i64 1,.func (.func 245) #[] #[]] 270)
   have HW2:=HB0.alloc (.cells #[.int .i64 1,.func (.func 245) #[] #[]] 270)
   by_cases hkk:x.kind=1
   .have hb1:((1:Int)==x.kind)=true:=by simp [hkk]
    rw [if_neg (by omega),if_neg (by omega)] at HF
    have HKK:=aA1 hkk;clear hkk hk hjk
    go_wp2_with (go_at_call 245;refine (aZp x _ g _ _ (HGV.out _ HW2) HX.out HG.out).mono ?_;rintro e w' ⟨rfl,hb⟩;replace HW2:=HW2.trans hb;clear hb)
    go_ret2
    rw [HF.out];exact ⟨rfl,HW2⟩
   .have hb1:((1:Int)==x.kind)=false:=by simp;omega
    go_wp2_with fail
    go_roundg 2
    case rel=>exact ⟨1,by omega,rfl,rfl,by omega,HB2⟩
    case measure=>omega
  .have HB2:=HB.alloc (.cells #[.int .i64 2,.func (.func 247) #[] #[]] 270)
   have HW2:=HB0.alloc (.cells #[.int .i64 2,.func (.func 247) #[] #[]] 270)
   by_cases hkk:x.kind=2
   .have hb1:((2:Int)==x.kind)=true:=by simp [hkk]
    rw [if_pos hkk] at HF;have HKK:=aA1 hkk;clear hkk hk hjk
    go_wp2_with (go_at_call 247;refine (aZq x _ g _ _ (HGV.out _ HW2)).mono ?_;rintro e w' ⟨rfl,hb⟩;replace HW2:=HW2.trans hb;clear hb)
    go_ret2
    rw [HF.out];exact ⟨rfl,HW2⟩
   .have hb1:((2:Int)==x.kind)=false:=by simp;omega
    go_wp2_with fail
    go_roundg 1
    case rel=>exact ⟨2,by omega,rfl,rfl,by omega,HB2⟩
    case measure=>omega
  .have hkk:x.kind=3:=by omega
   have HW2:=HB0.alloc (.cells #[.int .i64 3,.func (.func 248) #[] #[]] 270);have hb1:((3:Int)==x.kind)=true:=by simp [hkk]
   rw [if_neg (by omega),if_pos hkk] at HF
   have HKK:=aA1 hkk;clear hkk hk hjk
   go_wp2_with (go_at_call 248;refine (aZr x _ g i _ (HGV.out _ HW2) hi HL.out).mono ?_;rintro e w' ⟨rfl,hb⟩;replace HW2:=HW2.trans hb;clear hb)
   go_ret2
   rw [HF.out];exact ⟨rfl,HW2⟩
theorem aH4 (v:Value) (p:Prg) (v2:Value) (g:Graph) (i q:Nat) (w:World) (h:aE0 w v p) (h2:aAl w v2 g) (hq:q<p.vars.length) (hx:aCc p.vars[q]=true) (hg:GOK g) (hi:i<g.ports.length) (hl:aB3 g=true) :
  Calls prog 139 #[v,v2,.int .i64 i,.int .i64 q] w fun e w'=>e = .returned (.tuple #[.int .i64 (aAg p.vars[q] g i).1,.int .i64 (aAg p.vars[q] g i).2])/\Bel w w':=by
 have HGV:=aA1 (fun w' (k:Bel w w')=>h2.keep k);obtain ⟨A,k,A2,k2,rfl,hV,_,_,_,_,_⟩:=h;obtain ⟨A3,k3,A4,k4,rfl,_,_,_,hP,_,_⟩:=h2;obtain ⟨b,o,rfl,hb,c0,c1,c2,c3,c4,c5⟩:=hV.at_ q hq;have hd0:decide (q<p.vars.length)=true:=by simpa using hq
 have HF:Hid (aAg p.vars[q] g i=if p.vars[q].kind=2 then (0,1) else if p.vars[q].kind=3 then (-1,(g.ports[i].length:Int)-1) else (p.vars[q].lo,p.vars[q].hi+p.vars[q].perNode*g.ids.length+p.vars[q].perID*aEo g.ids)):=by
  show aAg p.vars[q] g i=_
  unfold aAg;rw [aA7 hi]
 have HNP:=aA1 (aFq hx);have HW:=Bel.refl ((w.alloc (.cells #[.string p.name,.slice (some ⟨b,o,none⟩) p.vars.length k,.slice A2 p.rules.length k2] 25)).alloc (.cells #[.slice A3 g.ids.length k3,.slice A4 g.ports.length k4] 29))
 by_cases hk2:p.vars[q].kind=2
 .have e1:(p.vars[q].kind==2)=true:=by simpa using hk2
  rw [if_pos hk2] at HF;have HK:=aA1 hk2;clear hk2 hV hP;go_enter func139,ntmps139;go_wp2
  go_ret2
  rw [HF.out];exact ⟨rfl,aA0 HW⟩
 .have e1:(p.vars[q].kind==2)=false:=by simpa using hk2
  rw [if_neg hk2] at HF
  by_cases hk3:p.vars[q].kind=3
  .have e2:(p.vars[q].kind==3)=true:=by simpa using hk3
   rw [if_pos hk3] at HF;have HK:=aA1 hk3;obtain ⟨b',o',R,r1,rfl,hb',hc1,_,_,_⟩:=hP.at_ i hi;obtain ⟨_,l2,l3⟩:=aE2 hl;have hlen:=l3 _ (List.getElem_mem hi);have hd:decide (i<g.ports.length)=true:=by simpa using hi
   have hw:IntKind.i64.wrap ((g.ports[i].length:Int)-1)=(g.ports[i].length:Int)-1:=IntWalk.i64_in _ (by omega)
   clear hk3 hk2 hV hP l3;go_enter func139,ntmps139;go_wp2
   go_quiet (fail)
   go_wp2
   go_ret2
   rw [HF.out];exact ⟨rfl,(aA0 HW).drewN _⟩
  .have e2:(p.vars[q].kind==3)=false:=by simpa using hk3
   rw [if_neg hk3] at HF
   have hb3:(0<=p.vars[q].perNode/\p.vars[q].perNode<=255)/\(0<=p.vars[q].perID/\p.vars[q].perID<=255) /\ -4096<=p.vars[q].hi/\p.vars[q].hi<=4096:=by
    rcases HNP.out with h | h | h <;> omega
   have hle:=hg.le;have hids:=hg.ids;obtain ⟨g1,g2⟩:=aLf hg;obtain ⟨m1,m2⟩:=aE3 hb3.1.1 hb3.1.2 (show (0:Int)<=g.ports.length by omega) (show (g.ports.length:Int)<=24 by omega)
   obtain ⟨m3,m4⟩:=aE3 hb3.2.1.1 hb3.2.1.2 g1 g2;rw [hids] at HF;have w1:IntKind.i64.wrap (p.vars[q].perNode*(g.ports.length:Int))=p.vars[q].perNode*g.ports.length:=IntWalk.i64_in _ (by omega)
   have w2:IntKind.i64.wrap (p.vars[q].hi+p.vars[q].perNode*(g.ports.length:Int))=p.vars[q].hi+p.vars[q].perNode*g.ports.length:=IntWalk.i64_in _ (by omega)
   have w3:IntKind.i64.wrap (p.vars[q].perID*aEo g.ids)=p.vars[q].perID*aEo g.ids:=IntWalk.i64_in _ (by omega)
   have w4:IntKind.i64.wrap (p.vars[q].hi+p.vars[q].perNode*(g.ports.length:Int)+p.vars[q].perID*aEo g.ids)=p.vars[q].hi+p.vars[q].perNode*g.ports.length+p.vars[q].perID*aEo g.ids:=IntWalk.i64_in _ (by omega)
   have hl1000:g.ids.length<=1000:=by omega
   have hcell:=aA1 (fun w' (kk:Bel ((w.alloc (.cells #[.string p.name,.slice (some ⟨b,o,none⟩) p.vars.length k,.slice A2 p.rules.length k2] 25)).alloc (.cells #[.slice A3 g.ids.length k3,.slice A4 g.ports.length k4] 29)) w')=>And.intro ((aA6 kk).2.1) (And.intro ((aA6 kk).2.2.2.1) (And.intro ((aA6 kk).2.2.2.2.1) (And.intro (((aA0 kk).cell hb).trans c2) (And.intro (((aA0 kk).cell hb).trans c3) (And.intro (((aA0 kk).cell hb).trans c4) (And.intro (((aA0 kk).cell hb).trans c5) ((aA6 kk).2.2.2.2.2))))))));clear hk3 hk2 hV hP m1 m2 m3 m4 hids hle hg hx hb3;generalize hvq:p.vars[q]=x at *;clear hvq;go_enter func139,ntmps139;go_wp2;replace HW:=HW.drew
   go_region_held3 (fun w'=>w'.cell? ⟨w.heap.size,1,none⟩=some (.slice (some ⟨b,o,none⟩) p.vars.length k)/\w'.cell? ⟨w.heap.size+1,0,none⟩=some (.slice A3 g.ids.length k3)/\w'.cell? ⟨w.heap.size+1,1,none⟩=some (.slice A4 g.ports.length k4)/\w'.cell? ⟨b,o+q*6+2,none⟩=some (.int .i64 x.lo)/\w'.cell? ⟨b,o+q*6+3,none⟩=some (.int .i64 x.hi)/\w'.cell? ⟨b,o+q*6+4,none⟩=some (.int .i64 x.perNode)/\w'.cell? ⟨b,o+q*6+5,none⟩=some (.int .i64 x.perID)/\w.heap.size+1<w'.heap.size) (exact hcell.out _ HW) (first | (go_simp;go_at_call 186;refine (aP7 _ g _ (HGV.out _ (aA0 HW)) hl1000).mono ?_;rintro e w' ⟨rfl,hbb⟩;replace HW:=HW.trans hbb;clear hbb))
   go_wp2
   go_ret2
   rw [HF.out];exact ⟨rfl,aA0 HW⟩
def aJg (g:Graph) (x:Var):Bool:=decide (x.kind≠1∨((aAg x g 0).1<=(aAg x g 0).2/\(aAg x g 0).2-(aAg x g 0).1+1<=4096))
def aCf (p:Prg) (g:Graph):Int :=
 if aBm p≠0 then 8 else if aFz g=false then 1 else if p.vars.all (aJg g)=false then 9 else 0
theorem aI4 {x:Var} {g:Graph} {v:Nat} (hx:aCc x=true) (hg:GOK g) (hv:v<g.ports.length) : -4096<=(aAg x g v).1/\(aAg x g v).1<=4096 /\ -4096<=(aAg x g v).2/\(aAg x g v).2<=80000:=by
 have hle:=hg.le;have hids:=hg.ids;obtain ⟨g1,g2⟩:=aLf hg;have hlen:=aD7 hv (hg.links v hv);unfold aAg;rw [aA7 hv]
 rcases aFq hx with h | h | h
 .rw [if_pos h.1];simp
 .rw [if_neg (by omega),if_pos h.1];simp;omega
 .rw [if_neg (by omega),if_neg (by omega)]
  obtain ⟨_,a1,a2,a3,a4,a5⟩:=h;obtain ⟨m1,m2⟩:=aE3 a2.1 a2.2 (show (0:Int)<=g.ids.length by omega) (show (g.ids.length:Int)<=24 by omega)
  obtain ⟨m3,m4⟩:=aE3 a3.1 a3.2 g1 g2;simp only []
  omega
theorem aB6 {p:Prg} (h:aBm p=0):p.vars.all aCc=true/\1<=p.vars.length/\p.vars.length<=6/\p.rules.length<=12/\aDh p=true/\(∀ r∈p.rules,FOK p.vars.length r)/\(∀ r∈p.rules,aCt (aAx p) r=true):=by
 unfold aBm at h;split at h
 .cases h
 .rename_i hn
  split at h
  .cases h
  .rename_i h1
   split at h
   .cases h
   .rename_i h2
    split at h
    .cases h
    .rename_i h3
     split at h
     .cases h
     .rename_i h4
      refine ⟨by simpa using h2,by omega,by omega,by omega,by simpa using h1,fun r hr=>?_,fun r hr=>?_⟩
      .exact (aG6 _ _).1 (List.all_eq_true.1 (by simpa using h3:p.rules.all (aCv p.vars.length)=true) r hr)
      .exact List.all_eq_true.1 (by simpa using h4:p.rules.all (aCt (aAx p))=true) r hr
theorem aLe (v:Value) (p:Prg) (v2:Value) (g:Graph) (w:World) (h:aE0 w v p) (h2:aAl w v2 g) (hL:aAt p=true) (hG:aB3 g=true) :
  Calls prog 149 #[v,v2] w fun e w'=>e = .returned (.int .i64 (aCf p g))/\Bel w w':=by
 have HPV:=aA1 (fun w' (k:Bel w w')=>h.keep k);have HGV:=aA1 (fun w' (k:Bel w w')=>h2.keep k);obtain ⟨A,k,A2,k2,rfl,hV,_,_,_,_,_⟩:=h;obtain ⟨A3,k3,A4,k4,rfl,_,_,_,_,_,_⟩:=h2;have HV:=aA1 (fun w' (k:Bel w w')=>aKh.keep hV k);clear hV;have HL:=aA1 hL;have HGL:=aA1 hG;clear hL hG;have HW:=Bel.refl ((w.alloc (.cells #[.string p.name,.slice A p.vars.length k,.slice A2 p.rules.length k2] 25)).alloc (.cells #[.slice A3 g.ids.length k3,.slice A4 g.ports.length k4] 29));have HF:Hid (aCf p g=if aBm p≠0 then 8 else if aFz g=false then 1 else if p.vars.all (aJg g)=false then 9 else 0):=rfl
 by_cases hc:aBm p=0
 .have hcb:decide (aBm p=0)=true:=by simpa using hc
  rw [if_neg (by simpa using hc)] at HF
  have HCN:=aA1 (aB6 hc);have HCB:=aA1 hcb;clear hc hcb;have hn6:=HCN.out.2.2.1;cases hg:aFz g with
  | false =>
   rw [hg,if_pos rfl] at HF;go_enter func149,ntmps149
   go_wp2_with (first
    | (go_at_call 106;refine (aE7 _ p _ (HPV.out _ (aA0 HW)) HL.out).mono ?_;rintro e w' ⟨rfl,hb⟩;rw [HCB.out];replace HW:=HW.trans hb;clear hb;obtain ⟨p0,p1,p2,g0,g1,gsz⟩:=aA6 HW)
    | (go_at_call 202;refine (aM0 _ g _ (HGV.out _ (aA0 HW)) HGL.out).mono ?_;rintro e w' ⟨rfl,hb⟩;rw [hg];replace HW:=HW.trans hb;clear hb))
   go_ret;exact ⟨aA4 HF.out.symm,aA0 HW⟩
  | true =>
   rw [hg,if_neg (by decide)] at HF
   have HGG:=aA1 hg;have HGO:=aA1 ((aG7 g).1 hg);clear hg;go_enter func149,ntmps149
   go_wp2_with (first
    | (go_at_call 106;refine (aE7 _ p _ (HPV.out _ (aA0 HW)) HL.out).mono ?_;rintro e w' ⟨rfl,hb⟩;rw [HCB.out];replace HW:=HW.trans hb;clear hb;obtain ⟨p0,p1,p2,g0,g1,gsz⟩:=aA6 HW)
    | (go_at_call 202;refine (aM0 _ g _ (HGV.out _ (aA0 HW)) HGL.out).mono ?_;rintro e w' ⟨rfl,hb⟩;rw [HGG.out];replace HW:=HW.trans hb;clear hb p0 p1 p2 g0 g1 gsz;obtain ⟨p0,p1,p2,g0,g1,gsz⟩:=aA6 HW))
   clear p0 p1 p2 g0 g1 gsz
   go_loopg [6,7,8,18] p.vars.length (fun m _x _y _u z wr=>∃ j:Nat,j<=p.vars.length/\m=p.vars.length-j/\z = .int .i64 j/\Hid ((p.vars.take j).all (aJg g)=true)/\Bel ((w.alloc (.cells #[.string p.name,.slice A p.vars.length k,.slice A2 p.rules.length k2] 25)).alloc (.cells #[.slice A3 g.ids.length k3,.slice A4 g.ports.length k4] 29)) wr)
   case atStart=>exact ⟨0,by omega,rfl,rfl,rfl,HW⟩
   case round =>
    clear HW;obtain ⟨i,hi,rfl,rfl,HJ,HW⟩:=hrel
    by_cases hlt:i<p.vars.length
    .have hd0:decide (i<p.vars.length)=true:=by simpa using hlt
     obtain ⟨p0,p1,p2,g0,g1,gsz⟩:=aA6 HW;obtain ⟨b,o,rfl,hb,c0,c1,c2,c3,c4,c5⟩:=(HV.out _ (aA0 HW)).at_ i hlt;have HNX:=aA1 (List.all_eq_true.1 HCN.out.1 _ (List.getElem_mem hlt));have hpos:0<g.ports.length:=HGO.out.pos;have hbs:=aI4 HNX.out HGO.out hpos;have HFV:Hid (aJg g p.vars[i]=decide (p.vars[i].kind≠1∨((aAg p.vars[i] g 0).1<=(aAg p.vars[i] g 0).2/\(aAg p.vars[i] g 0).2-(aAg p.vars[i] g 0).1+1<=4096))):=rfl;have HW2:=HW.alloc (.cells #[.string p.vars[i].name,.int .i64 p.vars[i].kind,.int .i64 p.vars[i].lo,.int .i64 p.vars[i].hi,.int .i64 p.vars[i].perNode,.int .i64 p.vars[i].perID] 159)
     by_cases hk:p.vars[i].kind=1
     .have hkb:(p.vars[i].kind != 1)=false:=by simpa using hk
      have HK:=aA1 hk;clear hk;generalize hbd:aAg p.vars[i] g 0=B at *;have HBD:=aA1 hbd;clear hbd;obtain ⟨lo,hi'⟩:=B;dsimp only at hbs HFV
      by_cases hok:lo<=hi'/\hi' - lo+1<=4096
      .have d1:decide (hi' < lo)=false:=by simp;omega
       have d2:decide (4096<hi' - lo+1)=false:=by simp;omega
       have HN:=aA1 (aAb hlt HJ.out (by rw [HFV.out];simp;omega))
       go_wp2_with (go_at_call 203;refine (aLc p.vars[i] _ g 0 _ (HGV.out _ (aA0 HW2)) HNX.out HGO.out hpos HGL.out).mono ?_;rintro e w' ⟨rfl,hb⟩;rw [HBD.out];replace HW2:=HW2.trans hb;clear hb)
       go_roundg (p.vars.length-(i+1))
       case rel=>exact ⟨i+1,by omega,rfl,by go_num,HN,HW2⟩
       case measure=>omega
      .rw [aAv hlt (by rw [HFV.out,decide_eq_false];have:=HK.out;omega),if_pos rfl] at HF
       by_cases d1:hi' < lo
       .have d1:decide (hi' < lo)=true:=by simpa using d1
        clear hok
        go_wp2_with (go_at_call 203;refine (aLc p.vars[i] _ g 0 _ (HGV.out _ (aA0 HW2)) HNX.out HGO.out hpos HGL.out).mono ?_;rintro e w' ⟨rfl,hb⟩;rw [HBD.out];replace HW2:=HW2.trans hb;clear hb)
        go_ret;exact ⟨aA4 HF.out.symm,aA0 HW2⟩
       .have d2:decide (4096<hi' - lo+1)=true:=by simp;omega
        have d1:decide (hi' < lo)=false:=by simpa using d1
        clear hok
        go_wp2_with (go_at_call 203;refine (aLc p.vars[i] _ g 0 _ (HGV.out _ (aA0 HW2)) HNX.out HGO.out hpos HGL.out).mono ?_;rintro e w' ⟨rfl,hb⟩;rw [HBD.out];replace HW2:=HW2.trans hb;clear hb)
        go_ret;exact ⟨aA4 HF.out.symm,aA0 HW2⟩
     .have hkb:(p.vars[i].kind != 1)=true:=by simpa using hk
      have HN:=aA1 (aAb hlt HJ.out (by rw [HFV.out];simp [hk]))
      go_wp2_with fail
      go_roundg (p.vars.length-(i+1))
      case rel=>exact ⟨i+1,by omega,rfl,by go_num,HN,HW2⟩
      case measure=>omega
    .have hd0:decide (i<p.vars.length)=false:=by simpa using hlt
     rw [aAy (by omega) HJ.out,if_neg (by decide)] at HF
     go_wp2_with fail
     go_ret;exact ⟨aA4 HF.out.symm,aA0 HW⟩
 .have hcb:decide (aBm p=0)=false:=by simpa using hc
  rw [if_pos hc] at HF;have HCB:=aA1 hcb;clear hc hcb;go_enter func149,ntmps149
  go_wp2_with (go_at_call 106;refine (aE7 _ p _ (HPV.out _ (aA0 HW)) HL.out).mono ?_;rintro e w' ⟨rfl,hb⟩;rw [HCB.out];replace HW:=HW.trans hb;clear hb)
  go_ret;exact ⟨aA4 HF.out.symm,aA0 HW⟩
theorem aF9 (v:Value) (p:Prg) (v2:Value) (g:Graph) (w:World) (h:aE0 w v p) (h2:aAl w v2 g) (hL:aAt p=true) (hG:aB3 g=true) :
  Calls prog 136 #[v,v2] w fun e w'=>e = .returned (.int .i64 (aCf p g))/\Bel w w':=by
 have HPV:=aA1 (fun w' (k:Bel w w')=>h.keep k);have HGV:=aA1 (fun w' (k:Bel w w')=>h2.keep k);obtain ⟨A,k,A2,k2,rfl,hV,_,_,_,_,_⟩:=h;obtain ⟨A3,k3,A4,k4,rfl,_,_,_,_,_,_⟩:=h2;have HV:=aA1 (fun w' (k:Bel w w')=>aKh.keep hV k);clear hV;have HL:=aA1 hL;have HGL:=aA1 hG;clear hL hG;have HW:=Bel.refl ((w.alloc (.cells #[.string p.name,.slice A p.vars.length k,.slice A2 p.rules.length k2] 25)).alloc (.cells #[.slice A3 g.ids.length k3,.slice A4 g.ports.length k4] 29));have HF:Hid (aCf p g=if aBm p≠0 then 8 else if aFz g=false then 1 else if p.vars.all (aJg g)=false then 9 else 0):=rfl
 by_cases hc:aBm p=0
 .have hcb:decide (aBm p=0)=true:=by simpa using hc
  rw [if_neg (by simpa using hc)] at HF
  have HCN:=aA1 (aB6 hc);have HCB:=aA1 hcb;clear hc hcb;have hn6:=HCN.out.2.2.1;cases hg:aFz g with
  | false =>
   rw [hg,if_pos rfl] at HF;go_enter func136,ntmps136
   go_wp2_with (first
    | (go_at_call 98;refine (aCr _ p _ (HPV.out _ (aA0 HW)) HL.out).mono ?_;rintro e w' ⟨rfl,hb⟩;rw [HCB.out];replace HW:=HW.trans hb;clear hb;obtain ⟨p0,p1,p2,g0,g1,gsz⟩:=aA6 HW)
    | (go_at_call 124;refine (aBw _ g _ (HGV.out _ (aA0 HW)) HGL.out).mono ?_;rintro e w' ⟨rfl,hb⟩;rw [hg];replace HW:=HW.trans hb;clear hb))
   go_ret;exact ⟨aA4 HF.out.symm,aA0 HW⟩
  | true =>
   rw [hg,if_neg (by decide)] at HF
   have HGG:=aA1 hg;have HGO:=aA1 ((aG7 g).1 hg);clear hg;go_enter func136,ntmps136
   go_wp2_with (first
    | (go_at_call 98;refine (aCr _ p _ (HPV.out _ (aA0 HW)) HL.out).mono ?_;rintro e w' ⟨rfl,hb⟩;rw [HCB.out];replace HW:=HW.trans hb;clear hb;obtain ⟨p0,p1,p2,g0,g1,gsz⟩:=aA6 HW)
    | (go_at_call 124;refine (aBw _ g _ (HGV.out _ (aA0 HW)) HGL.out).mono ?_;rintro e w' ⟨rfl,hb⟩;rw [HGG.out];replace HW:=HW.trans hb;clear hb p0 p1 p2 g0 g1 gsz;obtain ⟨p0,p1,p2,g0,g1,gsz⟩:=aA6 HW))
   clear p0 p1 p2 g0 g1 gsz
   go_loopg [5,6,7] p.vars.length (fun m z _y _u wr=>∃ j:Nat,j<=p.vars.length/\m=p.vars.length-j/\z = .int .i64 j/\Hid ((p.vars.take j).all (aJg g)=true)/\Bel ((w.alloc (.cells #[.string p.name,.slice A p.vars.length k,.slice A2 p.rules.length k2] 25)).alloc (.cells #[.slice A3 g.ids.length k3,.slice A4 g.ports.length k4] 29)) wr)
   case atStart=>exact ⟨0,by omega,rfl,rfl,rfl,HW⟩
   case round =>
    clear HW;obtain ⟨i,hi,rfl,rfl,HJ,HW⟩:=hrel;obtain ⟨p0,p1,p2,g0,g1,gsz⟩:=aA6 HW
    by_cases hlt:i<p.vars.length
    .have hd0:decide (i<p.vars.length)=true:=by simpa using hlt
     have HNX:=aA1 (List.all_eq_true.1 HCN.out.1 _ (List.getElem_mem hlt));have hpos:0<g.ports.length:=HGO.out.pos;have hbs:=aI4 HNX.out HGO.out hpos;have HFV:Hid (aJg g p.vars[i]=decide (p.vars[i].kind≠1∨((aAg p.vars[i] g 0).1<=(aAg p.vars[i] g 0).2/\(aAg p.vars[i] g 0).2-(aAg p.vars[i] g 0).1+1<=4096))):=rfl;generalize hbd:aAg p.vars[i] g 0=B at *;have HBD:=aA1 hbd;clear hbd;obtain ⟨lo,hi'⟩:=B;dsimp only at hbs HFV
     go_wp2_with fail
     refine (aH4 _ p _ g 0 i _ (HPV.out _ (aA0 HW)) (HGV.out _ (aA0 HW)) hlt HNX.out HGO.out hpos HGL.out).mono ?_
     rintro e w' ⟨rfl,hb⟩;rw [HBD.out];replace HW:=HW.trans hb;clear hb p0 p1 p2 g0 g1 gsz;obtain ⟨p0,p1,p2,g0,g1,gsz⟩:=aA6 HW;obtain ⟨b,o,rfl,hb,c0,c1,c2,c3,c4,c5⟩:=(HV.out _ (aA0 HW)).at_ i hlt;dsimp only
     by_cases hk:p.vars[i].kind=1
     .have hkb:(p.vars[i].kind==1)=true:=by simpa using hk
      have HK:=aA1 hk;clear hk
      by_cases hok:lo<=hi'/\hi' - lo+1<=4096
      .have d1:inB (hi' - lo) 0 4095=true:=aEi (by omega) (by omega)
       have HN:=aA1 (aAb hlt HJ.out (by rw [HFV.out];simp;omega))
       go_wp2_with (go_at_call 110;refine (aBs _ _ _ _).mono ?_;rintro e w' ⟨rfl,rfl⟩)
       go_roundg (p.vars.length-(i+1))
       case rel=>exact ⟨i+1,by omega,rfl,by go_num,HN,HW⟩
       case measure=>omega
      .rw [aAv hlt (by rw [HFV.out,decide_eq_false];have:=HK.out;omega),if_pos rfl] at HF
       have d1:inB (hi' - lo) 0 4095=false:=aHr (by omega)
       clear hok
       go_wp2_with (go_at_call 110;refine (aBs _ _ _ _).mono ?_;rintro e w' ⟨rfl,rfl⟩)
       go_ret;exact ⟨aA4 HF.out.symm,aA0 HW⟩
     .have hkb:(p.vars[i].kind==1)=false:=by simpa using hk
      have HN:=aA1 (aAb hlt HJ.out (by rw [HFV.out];simp [hk]))
      go_wp2_with fail
      go_roundg (p.vars.length-(i+1))
      case rel=>exact ⟨i+1,by omega,rfl,by go_num,HN,HW⟩
      case measure=>omega
    .have hd0:decide (i<p.vars.length)=false:=by simpa using hlt
     rw [aAy (by omega) HJ.out,if_neg (by decide)] at HF
     go_wp2_with fail
     go_ret;exact ⟨aA4 HF.out.symm,aA0 HW⟩
 .have hcb:decide (aBm p=0)=false:=by simpa using hc
  rw [if_pos hc] at HF;have HCB:=aA1 hcb;clear hc hcb;go_enter func136,ntmps136
  go_wp2_with (go_at_call 98;refine (aCr _ p _ (HPV.out _ (aA0 HW)) HL.out).mono ?_;rintro e w' ⟨rfl,hb⟩;rw [HCB.out];replace HW:=HW.trans hb;clear hb)
  go_ret;exact ⟨aA4 HF.out.symm,aA0 HW⟩
end Go.Proofs.YtmifhmdghfbalaaGreatDoor

