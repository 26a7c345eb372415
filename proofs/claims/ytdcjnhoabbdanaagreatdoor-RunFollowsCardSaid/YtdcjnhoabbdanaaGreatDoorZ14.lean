/- Merged. -/
import Derived.Test.YtdcjnhoabbdanaaGreatDoorZ13
import Derived.Laws.EntriesVeiled
set_option linter.unusedSimpArgs false
set_option linter.unnecessarySimpa false
set_option linter.unusedVariables false
set_option maxRecDepth 100000
set_option maxHeartbeats 2000000
open Go.Proofs.Tryz

namespace Go.Proofs.YtdcjnhoabbdanaaGreatDoor
open Go.RowKit
def aAk (x:Var) (g:Graph) (v:Nat):Int × Int :=
 if x.kind=2 then (0,1) else if x.kind=3 then (-1,((g.ports.getD v []).length:Int)-1) else (x.lo,x.hi+x.perNode*g.ids.length+x.perID*aDf g.ids)
theorem aIk {g:Graph} (hg:GOK g):0<=aDf g.ids/\aDf g.ids<=255:=⟨aJd _,aT0 _ _ (by omega) (fun x hx=>(hg.idr x hx).2)⟩
theorem aGl {a b A B:Int} (h1:0<=a) (h2:a<=A) (h3:0<=b) (h4:b<=B):0<=a*b/\a*b<=A*B :=
 ⟨Int.mul_nonneg h1 h3,Int.mul_le_mul h2 h4 h3 (by omega)⟩
theorem box3 {w wr:World} {cs ds es:Array Value} {t u s:TypeId} (h:Bel (((w.alloc (.cells cs t)).alloc (.cells ds u)).alloc (.cells es s)) wr) :
  (∀ i v,cs[i]?=some v->wr.cell? ⟨w.heap.size,i,none⟩=some v)/\(∀ i v,ds[i]?=some v->wr.cell? ⟨w.heap.size+1,i,none⟩=some v)/\(∀ i v,es[i]?=some v->wr.cell? ⟨w.heap.size+1+1,i,none⟩=some v)/\w.heap.size+1+1<wr.heap.size:=by
 have h2:=box2 (w:=w.alloc (.cells cs t)) h;simp only [World.size_alloc] at h2
 refine ⟨fun i v hv=>?_,h2.1,h2.2.1,h2.2.2⟩
 exact (h.cell (by simp;omega)).trans ((((Blk.new w cs t).alloc _).alloc _).cell i hv)
theorem box3v {w wr:World} {a0 a1 a2 a3 a4 a5 b0 b1 d0 d1 d2 d3 d4 d5:Value} {t u s:TypeId} (h:Bel (((w.alloc (.cells #[a0,a1,a2,a3,a4,a5] t)).alloc (.cells #[b0,b1] u)).alloc (.cells #[d0,d1,d2,d3,d4,d5] s)) wr) :
  (wr.cell? ⟨w.heap.size,0,none⟩=some a0/\wr.cell? ⟨w.heap.size,1,none⟩=some a1/\wr.cell? ⟨w.heap.size,2,none⟩=some a2/\wr.cell? ⟨w.heap.size,3,none⟩=some a3/\wr.cell? ⟨w.heap.size,4,none⟩=some a4/\wr.cell? ⟨w.heap.size,5,none⟩=some a5) /\
  (wr.cell? ⟨w.heap.size+1,0,none⟩=some b0/\wr.cell? ⟨w.heap.size+1,1,none⟩=some b1) /\
  (wr.cell? ⟨w.heap.size+1+1,0,none⟩=some d0/\wr.cell? ⟨w.heap.size+1+1,1,none⟩=some d1/\wr.cell? ⟨w.heap.size+1+1,2,none⟩=some d2/\wr.cell? ⟨w.heap.size+1+1,3,none⟩=some d3/\wr.cell? ⟨w.heap.size+1+1,4,none⟩=some d4/\wr.cell? ⟨w.heap.size+1+1,5,none⟩=some d5) /\
  w.heap.size<wr.heap.size/\w.heap.size+1<wr.heap.size/\w.heap.size+1+1<wr.heap.size:=by
 obtain ⟨c1,c2,c3,c4⟩:=box3 h;exact ⟨⟨c1 0 _ rfl,c1 1 _ rfl,c1 2 _ rfl,c1 3 _ rfl,c1 4 _ rfl,c1 5 _ rfl⟩,⟨c2 0 _ rfl,c2 1 _ rfl⟩,⟨c3 0 _ rfl,c3 1 _ rfl,c3 2 _ rfl,c3 3 _ rfl,c3 4 _ rfl,c3 5 _ rfl⟩,by omega,by omega,c4⟩
theorem aE1 {x:Var} (h:aBu x=true):(x.kind=2/\x.lo=0/\x.hi=0/\x.perNode=0/\x.perID=0)∨(x.kind=3/\x.lo=0/\x.hi=0/\x.perNode=0/\x.perID=0)∨(x.kind=1/\(0<=x.lo/\x.lo<=4096)/\(0<=x.perNode/\x.perNode<=255)/\(0<=x.perID/\x.perID<=255) /\ -4096<=x.hi/\x.hi<=4096):=by
 unfold aBu at h;have:=of_decide_eq_true h;omega
theorem aSq (x:Var) (v2:Value) (g:Graph) (i:Int) (w:World) (h2:aAn w v2 g) (hx:aBu x=true) (hg:GOK g) :
  Calls prog 124 #[aW5 x,v2,.int .i64 i] w fun e w'=>e = .returned (.tuple #[.int .i64 x.lo,.int .i64 (x.hi+x.perNode*g.ids.length+x.perID*aDf g.ids)])/\Bel w w':=by
 obtain ⟨A,k,A2,k2,rfl,hI,_,_,hP,_,_⟩:=h2;have HI:=aA0 (fun w' (k:Bel w w')=>aBr.keep hI k)
 have hb:(0<=x.perNode/\x.perNode<=255)/\(0<=x.perID/\x.perID<=255) /\ -4096<=x.hi/\x.hi<=4096:=by
  rcases aE1 hx with h | h | h <;> omega
 have hle:=hg.le;have hids:=hg.ids;obtain ⟨g1,g2⟩:=aIk hg;obtain ⟨m1,m2⟩:=aGl hb.1.1 hb.1.2 (show (0:Int)<=g.ids.length by omega) (show (g.ids.length:Int)<=24 by omega)
 obtain ⟨m3,m4⟩:=aGl hb.2.1.1 hb.2.1.2 g1 g2;have w1:IntKind.i64.wrap (x.perNode*(g.ids.length:Int))=x.perNode*g.ids.length:=IntWalk.i64_in _ (by omega)
 have w2:IntKind.i64.wrap (x.hi+x.perNode*(g.ids.length:Int))=x.hi+x.perNode*g.ids.length:=IntWalk.i64_in _ (by omega)
 have w3:IntKind.i64.wrap (x.perID*aDf g.ids)=x.perID*aDf g.ids:=IntWalk.i64_in _ (by omega)
 have w4:IntKind.i64.wrap (x.hi+x.perNode*(g.ids.length:Int)+x.perID*aDf g.ids)=x.hi+x.perNode*g.ids.length+x.perID*aDf g.ids:=IntWalk.i64_in _ (by omega)
 have hpos:1<=g.ids.length:=by have:=hg.pos;omega
 have hn24:g.ids.length<=24:=by omega
 have HR:=aA0 (fun i hi=>(hg.idr i hi).1);clear hI hP hx hg m1 m2 m3 m4 hids hle;obtain ⟨name,kind,lo,hi,pn,pi⟩:=x;unfold aW5;dsimp only at *;have HW:=Bel.refl ((w.alloc (.cells #[.string name,.int .i64 kind,.int .i64 lo,.int .i64 hi,.int .i64 pn,.int .i64 pi] 100)).alloc (.cells #[.slice A g.ids.length k,.slice A2 g.ports.length k2] 29));have hcell:=aA0 (fun w' (kk:Bel ((w.alloc (.cells #[.string name,.int .i64 kind,.int .i64 lo,.int .i64 hi,.int .i64 pn,.int .i64 pi] 100)).alloc (.cells #[.slice A g.ids.length k,.slice A2 g.ports.length k2] 29)) w')=>And.intro ((box2 kk).1 2 _ rfl) (And.intro ((box2 kk).1 3 _ rfl) (And.intro ((box2 kk).1 4 _ rfl) (And.intro ((box2 kk).1 5 _ rfl) (And.intro ((box2 kk).2.1 0 _ rfl) (box2 kk).2.2)))));go_enter func124,ntmps124;go_wp2;replace HW:=HW.drew
 go_region_held3 (fun w'=>w'.cell? ⟨w.heap.size,2,none⟩=some (.int .i64 lo)/\w'.cell? ⟨w.heap.size,3,none⟩=some (.int .i64 hi)/\w'.cell? ⟨w.heap.size,4,none⟩=some (.int .i64 pn)/\w'.cell? ⟨w.heap.size,5,none⟩=some (.int .i64 pi)/\w'.cell? ⟨w.heap.size+1,0,none⟩=some (.slice A g.ids.length k)/\w.heap.size+1<w'.heap.size) (exact hcell.out _ HW) (first | (go_simp;go_at_call 125;refine (aQc _ _ g.ids _ (HI.out _ (aA1 HW)) (by omega) hpos HR.out).mono ?_;rintro e w' ⟨rfl,rfl⟩))
 go_wp2
 go_ret2
 exact ⟨rfl,aA1 HW⟩
theorem aSr (x:Var) (v2:Value) (g:Graph) (i:Int) (w:World) (h2:aAn w v2 g) :
  Calls prog 126 #[aW5 x,v2,.int .i64 i] w fun e w'=>e = .returned (.tuple #[.int .i64 0,.int .i64 1])/\Bel w w':=by
 obtain ⟨A,k,A2,k2,rfl,_,_,_,_,_,_⟩:=h2;unfold aW5;go_enter func126,ntmps126;go_wp2
 go_ret2
 exact ⟨rfl,((Bel.refl _).alloc _).alloc _⟩
theorem aSs (x:Var) (v2:Value) (g:Graph) (i:Nat) (w:World) (h2:aAn w v2 g) (hi:i<g.ports.length) (hl:aB3 g=true) :
  Calls prog 127 #[aW5 x,v2,.int .i64 i] w fun e w'=>e = .returned (.tuple #[.int .i64 (-1),.int .i64 ((g.ports[i].length:Int)-1)])/\Bel w w':=by
 obtain ⟨A,k,A2,k2,rfl,_,_,_,hP,_,_⟩:=h2;obtain ⟨b,o,R,c1,rfl,hb,hc1,_,_,_⟩:=hP.at_ i hi;obtain ⟨_,l2,l3⟩:=aD5 hl;have hlen:=l3 _ (List.getElem_mem hi);have hd:decide (i<g.ports.length)=true:=by simpa using hi
 have hw:IntKind.i64.wrap ((g.ports[i].length:Int)-1)=(g.ports[i].length:Int)-1:=IntWalk.i64_in _ (by omega)
 clear hP l3 hl;unfold aW5;go_enter func127,ntmps127;go_wp2
 go_quiet (fail)
 go_wp2
 go_ret2
 exact ⟨rfl,(((Bel.refl _).alloc _).alloc _).drewN _⟩
theorem aIi (x:Var) (v2:Value) (g:Graph) (i:Nat) (w:World) (h2:aAn w v2 g) (hx:aBu x=true) (hg:GOK g) (hi:i<g.ports.length) (hl:aB3 g=true) :
  Calls prog 103 #[aW5 x,v2,.int .i64 i] w fun e w'=>e = .returned (.tuple #[.int .i64 (aAk x g i).1,.int .i64 (aAk x g i).2])/\Bel w w':=by
 have HGV:=aA0 (fun w' (k:Bel w w')=>h2.keep k);obtain ⟨A,k,A2,k2,rfl,hI,_,_,hP,_,_⟩:=h2;have HX:=aA0 hx;have HG:=aA0 hg;have HL:=aA0 hl;have hk:x.kind=1∨x.kind=2∨x.kind=3:=by rcases aE1 hx with h | h | h <;> omega
 have HF:Hid (aAk x g i=if x.kind=2 then (0,1) else if x.kind=3 then (-1,(g.ports[i].length:Int)-1) else (x.lo,x.hi+x.perNode*g.ids.length+x.perID*aDf g.ids)):=by
  show aAk x g i=_
  unfold aAk;rw [aAa hi]
 clear hI hP hx hg hl;unfold aW5;go_enter func103,ntmps103;go_wp2
 go_loopg [10,17] 3 (fun m _y z wr=>∃ j:Nat,j<3/\m=3-j/\z = .int .i64 j/\(j:Int)+1<=x.kind/\Bel (((w.alloc (.cells #[.string x.name,.int .i64 x.kind,.int .i64 x.lo,.int .i64 x.hi,.int .i64 x.perNode,.int .i64 x.perID] 100)).alloc (.cells #[.slice A g.ids.length k,.slice A2 g.ports.length k2] 29)).alloc (.cells #[.int .i64 1,.func (.func 124) #[] #[],.int .i64 2,.func (.func 126) #[] #[],.int .i64 3,.func (.func 127) #[] #[]] 165)) wr)
 case atStart=>exact ⟨0,by omega,rfl,rfl,by omega,Bel.refl _⟩
 case round =>
  obtain ⟨j,hj,rfl,rfl,hjk,HB⟩:=hrel;obtain ⟨⟨x0,x1,x2,x3,x4,x5⟩,⟨y0,y1⟩,⟨z0,z1,z2,z3,z4,z5⟩,s1,s2,s3⟩:=box3v HB;have HB0:Bel w wr:=aA4 (aA4 (aA4 HB))
  rcases (show j=0∨j=1∨j=2 by omega) with rfl | rfl | rfl
  .have HB2:=HB.alloc (.cells #[.int .i64 1,.func (.func 124) #[] #[]] 165)
   have HW2:=HB0.alloc (.cells #[.int .i64 1,.func (.func 124) #[] #[]] 165)
   by_cases hkk:x.kind=1
   .have hb1:((1:Int)==x.kind)=true:=by simp [hkk]
    rw [if_neg (by omega),if_neg (by omega)] at HF
    have HKK:=aA0 hkk;clear hkk hk hjk
    go_wp2_with (go_at_call 124;refine (aSq x _ g _ _ (HGV.out _ HW2) HX.out HG.out).mono ?_;rintro e w' ⟨rfl,hb⟩;replace HW2:=HW2.trans hb;clear hb)
    go_ret2
    rw [HF.out];exact ⟨rfl,HW2⟩
   .have hb1:((1:Int)==x.kind)=false:=by simp;omega
    go_wp2_with fail
    go_roundg 2
    case rel=>exact ⟨1,by omega,rfl,rfl,by omega,HB2⟩
    case measure=>omega
  .have HB2:=HB.alloc (.cells #[.int .i64 2,.func (.func 126) #[] #[]] 165)
   have HW2:=HB0.alloc (.cells #[.int .i64 2,.func (.func 126) #[] #[]] 165)
   by_cases hkk:x.kind=2
   .have hb1:((2:Int)==x.kind)=true:=by simp [hkk]
    rw [if_pos hkk] at HF;have HKK:=aA0 hkk;clear hkk hk hjk
    go_wp2_with (go_at_call 126;refine (aSr x _ g _ _ (HGV.out _ HW2)).mono ?_;rintro e w' ⟨rfl,hb⟩;replace HW2:=HW2.trans hb;clear hb)
    go_ret2
    rw [HF.out];exact ⟨rfl,HW2⟩
   .have hb1:((2:Int)==x.kind)=false:=by simp;omega
    go_wp2_with fail
    go_roundg 1
    case rel=>exact ⟨2,by omega,rfl,rfl,by omega,HB2⟩
    case measure=>omega
  .have hkk:x.kind=3:=by omega
   have HW2:=HB0.alloc (.cells #[.int .i64 3,.func (.func 127) #[] #[]] 165);have hb1:((3:Int)==x.kind)=true:=by simp [hkk]
   rw [if_neg (by omega),if_pos hkk] at HF
   have HKK:=aA0 hkk;clear hkk hk hjk
   go_wp2_with (go_at_call 127;refine (aSs x _ g i _ (HGV.out _ HW2) hi HL.out).mono ?_;rintro e w' ⟨rfl,hb⟩;replace HW2:=HW2.trans hb;clear hb)
   go_ret2
   rw [HF.out];exact ⟨rfl,HW2⟩
theorem aJy (v:Value) (p:Prg) (v2:Value) (g:Graph) (i q:Nat) (w:World) (h:aEm w v p) (h2:aAn w v2 g) (hq:q<p.vars.length) (hx:aBu p.vars[q]=true) (hg:GOK g) (hi:i<g.ports.length) (hl:aB3 g=true) :
  Calls prog 91 #[v,v2,.int .i64 i,.int .i64 q] w fun e w'=>e = .returned (.tuple #[.int .i64 (aAk p.vars[q] g i).1,.int .i64 (aAk p.vars[q] g i).2])/\Bel w w':=by
 have HGV:=aA0 (fun w' (k:Bel w w')=>h2.keep k);obtain ⟨A,k,A2,k2,rfl,hV,_,_,_,_,_⟩:=h;obtain ⟨A3,k3,A4,k4,rfl,_,_,_,hP,_,_⟩:=h2;obtain ⟨b,o,rfl,hb,c0,c1,c2,c3,c4,c5⟩:=hV.at_ q hq;have hd0:decide (q<p.vars.length)=true:=by simpa using hq
 have HF:Hid (aAk p.vars[q] g i=if p.vars[q].kind=2 then (0,1) else if p.vars[q].kind=3 then (-1,(g.ports[i].length:Int)-1) else (p.vars[q].lo,p.vars[q].hi+p.vars[q].perNode*g.ids.length+p.vars[q].perID*aDf g.ids)):=by
  show aAk p.vars[q] g i=_
  unfold aAk;rw [aAa hi]
 have HNP:=aA0 (aE1 hx);have HW:=Bel.refl ((w.alloc (.cells #[.string p.name,.slice (some ⟨b,o,none⟩) p.vars.length k,.slice A2 p.rules.length k2] 25)).alloc (.cells #[.slice A3 g.ids.length k3,.slice A4 g.ports.length k4] 29))
 by_cases hk2:p.vars[q].kind=2
 .have e1:(p.vars[q].kind==2)=true:=by simpa using hk2
  rw [if_pos hk2] at HF;have HK:=aA0 hk2;clear hk2 hV hP;go_enter func91,ntmps91;go_wp2
  go_ret2
  rw [HF.out];exact ⟨rfl,aA1 HW⟩
 .have e1:(p.vars[q].kind==2)=false:=by simpa using hk2
  rw [if_neg hk2] at HF
  by_cases hk3:p.vars[q].kind=3
  .have e2:(p.vars[q].kind==3)=true:=by simpa using hk3
   rw [if_pos hk3] at HF;have HK:=aA0 hk3;obtain ⟨b',o',R,r1,rfl,hb',hc1,_,_,_⟩:=hP.at_ i hi;obtain ⟨_,l2,l3⟩:=aD5 hl;have hlen:=l3 _ (List.getElem_mem hi);have hd:decide (i<g.ports.length)=true:=by simpa using hi
   have hw:IntKind.i64.wrap ((g.ports[i].length:Int)-1)=(g.ports[i].length:Int)-1:=IntWalk.i64_in _ (by omega)
   clear hk3 hk2 hV hP l3;go_enter func91,ntmps91;go_wp2
   go_quiet (fail)
   go_wp2
   go_ret2
   rw [HF.out];exact ⟨rfl,(aA1 HW).drewN _⟩
  .have e2:(p.vars[q].kind==3)=false:=by simpa using hk3
   rw [if_neg hk3] at HF
   have hb3:(0<=p.vars[q].perNode/\p.vars[q].perNode<=255)/\(0<=p.vars[q].perID/\p.vars[q].perID<=255) /\ -4096<=p.vars[q].hi/\p.vars[q].hi<=4096:=by
    rcases HNP.out with h | h | h <;> omega
   have hle:=hg.le;have hids:=hg.ids;obtain ⟨g1,g2⟩:=aIk hg;obtain ⟨m1,m2⟩:=aGl hb3.1.1 hb3.1.2 (show (0:Int)<=g.ports.length by omega) (show (g.ports.length:Int)<=24 by omega)
   obtain ⟨m3,m4⟩:=aGl hb3.2.1.1 hb3.2.1.2 g1 g2;rw [hids] at HF;have w1:IntKind.i64.wrap (p.vars[q].perNode*(g.ports.length:Int))=p.vars[q].perNode*g.ports.length:=IntWalk.i64_in _ (by omega)
   have w2:IntKind.i64.wrap (p.vars[q].hi+p.vars[q].perNode*(g.ports.length:Int))=p.vars[q].hi+p.vars[q].perNode*g.ports.length:=IntWalk.i64_in _ (by omega)
   have w3:IntKind.i64.wrap (p.vars[q].perID*aDf g.ids)=p.vars[q].perID*aDf g.ids:=IntWalk.i64_in _ (by omega)
   have w4:IntKind.i64.wrap (p.vars[q].hi+p.vars[q].perNode*(g.ports.length:Int)+p.vars[q].perID*aDf g.ids)=p.vars[q].hi+p.vars[q].perNode*g.ports.length+p.vars[q].perID*aDf g.ids:=IntWalk.i64_in _ (by omega)
   have hl1000:g.ids.length<=1000:=by omega
   have hcell:=aA0 (fun w' (kk:Bel ((w.alloc (.cells #[.string p.name,.slice (some ⟨b,o,none⟩) p.vars.length k,.slice A2 p.rules.length k2] 25)).alloc (.cells #[.slice A3 g.ids.length k3,.slice A4 g.ports.length k4] 29)) w')=>And.intro ((aAi kk).2.1) (And.intro ((aAi kk).2.2.2.1) (And.intro ((aAi kk).2.2.2.2.1) (And.intro (((aA1 kk).cell hb).trans c2) (And.intro (((aA1 kk).cell hb).trans c3) (And.intro (((aA1 kk).cell hb).trans c4) (And.intro (((aA1 kk).cell hb).trans c5) ((aAi kk).2.2.2.2.2))))))));clear hk3 hk2 hV hP m1 m2 m3 m4 hids hle hg hx hb3;generalize hvq:p.vars[q]=x at *;clear hvq;go_enter func91,ntmps91;go_wp2;replace HW:=HW.drew
   go_region_held3 (fun w'=>w'.cell? ⟨w.heap.size,1,none⟩=some (.slice (some ⟨b,o,none⟩) p.vars.length k)/\w'.cell? ⟨w.heap.size+1,0,none⟩=some (.slice A3 g.ids.length k3)/\w'.cell? ⟨w.heap.size+1,1,none⟩=some (.slice A4 g.ports.length k4)/\w'.cell? ⟨b,o+q*6+2,none⟩=some (.int .i64 x.lo)/\w'.cell? ⟨b,o+q*6+3,none⟩=some (.int .i64 x.hi)/\w'.cell? ⟨b,o+q*6+4,none⟩=some (.int .i64 x.perNode)/\w'.cell? ⟨b,o+q*6+5,none⟩=some (.int .i64 x.perID)/\w.heap.size+1<w'.heap.size) (exact hcell.out _ HW) (first | (go_simp;go_at_call 115;refine (aLc _ g _ (HGV.out _ (aA1 HW)) hl1000).mono ?_;rintro e w' ⟨rfl,hbb⟩;replace HW:=HW.trans hbb;clear hbb))
   go_wp2
   go_ret2
   rw [HF.out];exact ⟨rfl,aA1 HW⟩
end Go.Proofs.YtdcjnhoabbdanaaGreatDoor

