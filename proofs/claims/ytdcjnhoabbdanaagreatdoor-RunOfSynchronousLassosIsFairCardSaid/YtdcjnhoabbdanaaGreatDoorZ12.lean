/- Merged. -/
import Derived.Test.YtdcjnhoabbdanaaGreatDoorZ11
set_option linter.unusedSimpArgs false
set_option linter.unnecessarySimpa false
set_option linter.unusedVariables false
set_option maxRecDepth 100000
set_option maxHeartbeats 4000000
open Go.Proofs.Tryz

namespace Go.Proofs.YtdcjnhoabbdanaaGreatDoor
open Go.RowKit
theorem aCj (p:Prg) (g:Graph):(aAz p g).length=g.ids.length:=by simp [aAz]
theorem aF6 {p:Prg} {g:Graph} {v:Nat} (h:v<(aAz p g).length):(aAz p g)[v]=aIx p g v:=by simp [aAz]
theorem aC4 (p:Prg) (g:Graph) (v:Nat):(aIx p g v).length=p.vars.length:=by simp [aIx]
theorem aQv {p:Prg} {g:Graph} {v i:Nat} (h:i<(aIx p g v).length):(aIx p g v)[i]=aAo (p.vars[i]'(by rw [aC4] at h;exact h)) g v:=by simp [aIx]
theorem aCq (v:Value) (p:Prg) (v2:Value) (g:Graph) (v3:Value) (c:aA6) (w:World) (h:aEi w v p) (h2:aAn w v2 g) (h3:aAw w v3 c) (hL:aAu p=true) (hG:aB3 g=true) (hC:aBs c=true) :
  Calls prog 64 #[v,v2,v3] w fun e w'=>e = .returned (.int .i64 (aD1 p g c))/\Bel w w':=by
 have HPV:=aA0 (fun w' (k:Bel w w')=>h.keep k);have HGV:=aA0 (fun w' (k:Bel w w')=>h2.keep k);obtain ⟨A,k,A2,k2,rfl,_,_,_,_,_,_⟩:=h;obtain ⟨A3,k3,A4,k4,rfl,_,_,_,_,_,_⟩:=h2;obtain ⟨A5,k5,rfl,hCR,_,_⟩:=h3;have HCR:=aA0 (fun w' (k:Bel w w')=>aPy.keep hCR k);clear hCR;have HL:=aA0 hL;have HGL:=aA0 hG;obtain ⟨l1,l2⟩:=aBb hC;have HL2:=aA0 l2;clear hL hG hC l2;have HW:=Bel.refl ((w.alloc (.cells #[.string p.name,.slice A p.vars.length k,.slice A2 p.rules.length k2] 25)).alloc (.cells #[.slice A3 g.ids.length k3,.slice A4 g.ports.length k4] 29))
 by_cases hf:aHs p g=0
 .obtain ⟨f1,f2,_⟩:=aAp hf
  have HF1:=aA0 (aBl f1);have HF2:=aA0 f2;have HFZ:=aA0 hf;have HM:Hid (aD1 p g c=if aH5 (aAz p g) c=false then 10 else 0):=by show aD1 p g c=_;unfold aD1;rw [if_neg (by simpa using hf)]
  have HTL:Hid ((aAz p g).length=g.ports.length):=by show (aAz p g).length=_;rw [aCj,f2.ids]
  clear hf f1 f2;have hv6:=HF1.out.2.2.1
  by_cases hn:c.length=g.ports.length
  .have hb:(c.length != c.length)=false:=by simp
   have HN:=aA0 hn;rw [<- hn] at HGV HW ⊢;clear hn;go_enter func64,ntmps64
   go_wp2_with (go_at_call 90;refine (aJv _ p _ g _ (HPV.out _ (aA1 HW)) (HGV.out _ (aA1 HW)) HL.out HGL.out).mono ?_;rintro e w' ⟨rfl,hb⟩;rw [HFZ.out];replace HW:=HW.trans hb;clear hb;obtain ⟨p0,p1,p2,g0,g1,gsz⟩:=aAd HW)
   clear hb p0 p1 p2 g0 g1 gsz
   go_loopg [8,9,10,11] c.length (fun m z _y _x _u wr=>∃ j:Nat,j<=c.length/\m=c.length-j/\z = .int .i64 j/\Hid (∀ i,i<j->(h1:i<c.length)->aEk (aIx p g i) c[i]=true)/\Bel ((w.alloc (.cells #[.string p.name,.slice A p.vars.length k,.slice A2 p.rules.length k2] 25)).alloc (.cells #[.slice A3 g.ids.length k3,.slice A4 c.length k4] 29)) wr)
   case atStart=>exact ⟨0,by omega,rfl,rfl,fun i hi=>absurd hi (by omega),HW⟩
   case round =>
    clear HW;obtain ⟨v,hv,rfl,rfl,HJ,HW⟩:=hrel;obtain ⟨p0,p1,p2,g0,g1,gsz⟩:=aAd HW
    by_cases hlt:v<c.length
    .have hd0:decide (v<c.length)=true:=by simpa using hlt
     have hvp:v<g.ports.length:=by rw [<- HN.out];exact hlt
     obtain ⟨b,o,R,rc,rfl,hb,hc,hI,_,_⟩:=(HCR.out _ (aA1 HW)).at_ v hlt;have hrl:=HL2.out _ (List.getElem_mem hlt)
     by_cases hnl:c[v].length=p.vars.length
     .have hb1:(c[v].length != p.vars.length)=false:=by simpa using hnl
      have hb2:((c[v].length:Int) != (p.vars.length:Int))=false:=by simp;omega
      have HNL:=aA0 hnl;clear hnl
      go_wp2_with fail
      go_quiet (fail)
      go_wp2_with fail
      clear hb1 hb2 p0 p1 p2 g0 g1 gsz hd0 hb hc hI
      go_loopg [9,10,11] c[v].length (fun m z _y _x ws=>∃ j:Nat,j<=c[v].length/\m=c[v].length-j/\z = .int .i64 j/\Hid (∀ i,i<j->(h1:i<c[v].length)->(h2:i<(aIx p g v).length)->(aIx p g v)[i].1<=c[v][i]/\c[v][i]<=(aIx p g v)[i].2)/\Bel ((w.alloc (.cells #[.string p.name,.slice A p.vars.length k,.slice A2 p.rules.length k2] 25)).alloc (.cells #[.slice A3 g.ids.length k3,.slice A4 c.length k4] 29)) ws)
      case atStart=>exact ⟨0,by omega,rfl,rfl,fun i hi=>absurd hi (by omega),HW.drewN _⟩
      case round =>
       clear HW;obtain ⟨j,hj,rfl,rfl,HQ,HW⟩:=hrel;obtain ⟨p0,p1,p2,g0,g1,gsz⟩:=aAd HW;obtain ⟨b',o',R',rc',e',hb,hc,hI,_,_⟩:=(HCR.out _ (aA1 HW)).at_ v hlt;obtain ⟨rfl,rfl⟩:b=b'/\o=o':=by simpa using e'
       clear e'
       by_cases hlt2:j<c[v].length
       .have hd0:decide (j<c[v].length)=true:=by simpa using hlt2
        have hjv:j<p.vars.length:=by rw [<- HNL.out];exact hlt2
        have hjr:j<(aIx p g v).length:=by rw [aC4];exact hjv
        have HRE:=aA0 (aQv hjr);have HNX:=aA0 (List.all_eq_true.1 HF1.out.1 _ (List.getElem_mem hjv));have hdv:decide (v<c.length)=true:=by simpa using hlt
        go_wp2_with fail
        refine (aK7 _ p _ g v j _ (HPV.out _ (aA1 HW)) (HGV.out _ (aA1 HW)) hjv HNX.out HF2.out hvp HGL.out).mono ?_
        rintro e w' ⟨rfl,hbe⟩;rw [<- HRE.out];replace HW:=HW.trans hbe;clear hbe p0 p1 p2 g0 g1 gsz hb hc hI;obtain ⟨p0,p1,p2,g0,g1,gsz⟩:=aAd HW;obtain ⟨b',o',R2,rc2,e',hb,hc,hI,_,_⟩:=(HCR.out _ (aA1 HW)).at_ v hlt;obtain ⟨rfl,rfl⟩:b=b'/\o=o':=by simpa using e'
        clear e';obtain ⟨b3,o3,rfl,hb3,hc3⟩:=hI.at_ j hlt2
        by_cases hin:(aIx p g v)[j].1<=c[v][j]/\c[v][j]<=(aIx p g v)[j].2
        .have d1:inB c[v][j] (aIx p g v)[j].1 (aIx p g v)[j].2=true:=aDx hin.1 hin.2
         have HIN:=aA0 hin;clear hin
         go_wp2_with (go_at_call 92;refine (aCo _ _ _ _).mono ?_;rintro e w' ⟨rfl,rfl⟩)
         go_roundg (c[v].length-(j+1))
         case rel =>
          refine ⟨j+1,by omega,rfl,by go_num,?_,HW⟩
          intro i hi a1 a2
          rcases Nat.lt_or_ge i j with h | h
          .exact HQ.out i h a1 a2
          .obtain rfl:i=j:=by omega
           exact HIN.out
         case measure=>omega
        .have d1:inB c[v][j] (aIx p g v)[j].1 (aIx p g v)[j].2=false:=aI6 (by omega)
         have HCF:Hid (aH5 (aAz p g) c=false):=aFq fun hh=>by
          have h3:=hh.2 v hlt (by rw [HTL.out];exact hvp)
          rw [aF6] at h3;exact hin ((aCc.1 h3).2 j hlt2 hjr)
         rw [HCF.out,if_pos rfl] at HM;clear hin
         go_wp2_with (go_at_call 92;refine (aCo _ _ _ _).mono ?_;rintro e w' ⟨rfl,rfl⟩)
         go_ret;exact ⟨aA5 HM.out.symm,aA1 HW⟩
       .have hd0:decide (j<c[v].length)=false:=by simpa using hlt2
        have hdv:decide (v<c.length)=true:=by simpa using hlt
        go_wp2_with fail
        go_roundg (c.length-(v+1))
        case rel =>
         refine ⟨v+1,by omega,rfl,by go_num,?_,HW⟩
         intro i hi a1
         rcases Nat.lt_or_ge i v with h | h
         .exact HJ.out i h a1
         .obtain rfl:i=v:=by omega
          rw [aCc];exact ⟨by rw [aC4,HNL.out],fun q b1 b2=>HQ.out q (by omega) b1 b2⟩
        case measure=>omega
     .obtain ⟨n1,n2⟩:=aQk hnl
      have HCF:Hid (aH5 (aAz p g) c=false):=aFq fun hh=>by
       have h3:=hh.2 v hlt (by rw [HTL.out];exact hvp)
       rw [aF6] at h3;have:=(aCc.1 h3).1;rw [aC4] at this;exact hnl this
      rw [HCF.out,if_pos rfl] at HM;clear hnl
      go_wp2_with fail
      go_quiet (fail)
      go_wp2_with fail
      go_ret;exact ⟨aA5 HM.out.symm,(aA1 HW).drewN _⟩
    .have hd0:decide (v<c.length)=false:=by simpa using hlt
     have HCF:Hid (aH5 (aAz p g) c=true):=by
      show aH5 (aAz p g) c=true
      rw [aCd];refine ⟨by rw [HTL.out,HN.out],fun i a1 a2=>?_⟩
      rw [aF6];exact HJ.out i (by omega) a1
     rw [HCF.out,if_neg (by decide)] at HM
     go_wp2_with fail
     go_ret;exact ⟨aA5 HM.out.symm,aA1 HW⟩
  .obtain ⟨n1,n2⟩:=aQk hn
   have HCF:Hid (aH5 (aAz p g) c=false):=aFq fun hh=>hn (by rw [hh.1,HTL.out])
   rw [HCF.out,if_pos rfl] at HM;clear hn;go_enter func64,ntmps64
   go_wp2_with (go_at_call 90;refine (aJv _ p _ g _ (HPV.out _ (aA1 HW)) (HGV.out _ (aA1 HW)) HL.out HGL.out).mono ?_;rintro e w' ⟨rfl,hb⟩;rw [HFZ.out];replace HW:=HW.trans hb;clear hb;obtain ⟨p0,p1,p2,g0,g1,gsz⟩:=aAd HW)
   go_ret;exact ⟨aA5 HM.out.symm,aA1 HW⟩
 .have HM:Hid (aD1 p g c=aHs p g):=by show aD1 p g c=_;unfold aD1;rw [if_pos hf]
  have hfb:(aHs p g != 0)=true:=by simpa using hf
  go_enter func64,ntmps64
  go_wp2_with (go_at_call 90;refine (aJv _ p _ g _ (HPV.out _ (aA1 HW)) (HGV.out _ (aA1 HW)) HL.out HGL.out).mono ?_;rintro e w' ⟨rfl,hb⟩;replace HW:=HW.trans hb;clear hb)
  go_ret;exact ⟨aA5 HM.out.symm,aA1 HW⟩
theorem aG0 (v:Value) (p:Prg) (v2:Value) (g:Graph) (v3:Value) (c:aA6) (w:World) (h:aEi w v p) (h2:aAn w v2 g) (h3:aAw w v3 c) (hL:aAu p=true) (hG:aB3 g=true) (hC:aBs c=true) :
  Calls prog 42 #[v,v2,v3] w fun e w'=>e = .returned (.bool (decide (aD1 p g c=0)))/\Bel w w':=by
 have HPV:=aA0 (fun w' (k:Bel w w')=>h.keep k);have HGV:=aA0 (fun w' (k:Bel w w')=>h2.keep k);have HCV:=aA0 (fun w' (k:Bel w w')=>h3.keep k);obtain ⟨A,k,A2,k2,rfl,_,_,_,_,_,_⟩:=h;obtain ⟨A3,k3,A4,k4,rfl,_,_,_,_,_,_⟩:=h2;obtain ⟨A5,k5,rfl,_,_,_⟩:=h3;have HW:=Bel.refl ((w.alloc (.cells #[.string p.name,.slice A p.vars.length k,.slice A2 p.rules.length k2] 25)).alloc (.cells #[.slice A3 g.ids.length k3,.slice A4 g.ports.length k4] 29));go_enter func42,ntmps42
 go_wp2_with (go_at_call 64;refine (aCq _ p _ g _ c _ (HPV.out _ (aA1 HW)) (HGV.out _ (aA1 HW)) (HCV.out _ (aA1 HW)) hL hG hC).mono ?_;rintro e w' ⟨rfl,hb⟩;replace HW:=HW.trans hb;clear hb)
 go_ret;exact ⟨aA2 (by rw [Bool.eq_iff_iff];simp),aA1 HW⟩
def aGs (g:Graph) (v:Nat) (port:Int):Link:=(g.ports.getD v []).getD port.toNat default
def aDi (g:Graph) (op:Int) (v:Nat) (port:Int):Int :=
 if op=6 then g.ids.length else if op=7 then aDp g.ids else if op=8 then g.ids.getD v 0 else if op=9 then (g.ports.getD v []).length
 else if op=10 then aBj (decide (v=0)) else if op=11 then port
 else if op=13 then g.ids.getD (aGs g v port).to.toNat 0
 else if op=14 then (g.ports.getD (aGs g v port).to.toNat []).length
 else if op=15 then aBj (decide ((aGs g v port).to=0))
 else if op=16 then (aGs g v port).weight
 else aDu (g.ports.getD (aGs g v port).to.toNat []) v
def aGl (g:Graph) (c:aA6) (v:Nat) (port:Int) (t:Term):Int :=
 if t.op=1 then t.arg else if t.op=2 then 1 else if t.op=3 then 0 else if t.op=4 then -1
 else if t.op=5 then (c.getD v []).getD t.arg.toNat 0
 else if t.op=12 then (c.getD (aGs g v port).to.toNat []).getD t.arg.toNat 0
 else aDi g t.op v port
def aAt (g:Graph) (c:aA6) (v:Nat):Int->Ex->Int
 | port,.leaf t=>aGl g c v port t
 | port,.un t a=>if aAc t.op then aJ2 t.op ((List.range (g.ports.getD v []).length).map fun (k:Nat)=>aAt g c v (k:Int) a) else aHq t.op (aAt g c v port a)
 | port,.bin t a b=>aDz t.op (aAt g c v port a) (aAt g c v port b)
 | port,.tri _ a b d=>if aAt g c v port a≠0 then aAt g c v port b else aAt g c v port d
def aB5:Bool->Ex->Prop
 | b,.leaf t=>aCz t.op=true->b=true
 | b,.un t a=>aB5 (b||aAc t.op) a
 | b,.bin _ x y=>aB5 b x/\aB5 b y
 | b,.tri _ x y z=>aB5 b x/\aB5 b y/\aB5 b z
theorem bAz {b:Bool} {k:Int} (h:ifK b k≠0):b=true/\k≠0:=by
 unfold ifK at h;cases b
 .exact absurd rfl h
 .exact ⟨rfl,h⟩
theorem aWo {op a:Int} (h:aGn op a≠0):a≠0:=by
 unfold aGn at h;rintro rfl
 repeat' split at h
 all_goals exact h rfl
theorem aVp {op a b:Int} (h:aI2 op a b≠0):a≠0/\b≠0:=by
 unfold aI2 at h
 repeat' split at h
 all_goals
  have:=(bAz h).1;simp at this
  omega
theorem aP9 {kinds:List Int} {x:Ex}:∀ {b:Bool},aB7 kinds b x≠0->aB5 b x:=by
 induction x with
 | leaf t =>
  intro b h hn
  simp only [aB7] at h
  cases b
  .rw [hn] at h;exact absurd rfl h
  .rfl
 | un t a ih=>intro b h;exact ih (aWo h)
 | bin t x y ihx ihy=>intro b h;obtain ⟨h1,h2⟩:=aVp h;exact ⟨ihx h1,ihy h2⟩
 | tri t x y z ihx ihy ihz =>
  intro b h
  obtain ⟨h1,h2⟩:=bAz h;simp at h1
  refine ⟨ihx (by omega),ihy h2,ihz ?_⟩
  rw [<- h1.2];exact h2
theorem aQ9 (l:List Int):∀ i:Int,aE5 l i = -1∨(i<=aE5 l i/\aE5 l i<i+l.length):=by
 induction l with
 | nil=>intro i;left;rfl
 | cons a l ih =>
  intro i
  simp only [aE5]
  split
  .right;simp;omega
  .rcases ih (i+1) with h | h
   .left;exact h
   .right;simp;omega
theorem aQd (l:List Int):∀ z:Int,Num z->(∀ x∈l,Num x)->Num (l.foldl min z):=by
 induction l with
 | nil=>intro z hz _;exact hz
 | cons a l ih =>
  intro z hz h
  refine ih _ ?_ (fun x hx=>h x (by simp [hx]))
  have:=h a (by simp)
  unfold Num at *;omega
theorem aSy (l:List Int):∀ a b:Int,Num a->Num b->(∀ x∈l,Num x)->Num (aJz l a b).1/\Num (aJz l a b).2:=by
 induction l with
 | nil=>intro a b ha hb _;exact ⟨ha,hb⟩
 | cons x l ih =>
  intro a b ha hb h
  have hx:=h x (by simp)
  have hr:∀ y∈l,Num y:=fun y hy=>h y (by simp [hy])
  simp only [aJz]
  split
  .exact ih _ _ hx ha hr
  .refine ih _ _ ha ?_ hr
   unfold Num at *;omega
theorem aXo {op:Int} {l:List Int} (hn:∀ x∈l,Num x) (hl:l.length<=1000):Num (aJ2 op l):=by
 unfold aJ2;split
 .exact aEt _
 split
 .exact aEt _
 split
 .have:=aXi l;unfold Num;omega
 split
 .have:=aQ9 l 0;unfold Num;omega
 split
 .exact aQd l _ (by unfold Num;omega) hn
 split
 .exact (aSy l _ _ (by unfold Num;omega) (by unfold Num;omega) hn).1
 split
 .exact aV9 _
 split
 .have h1:=bA6 l (aL0 l 0) 0 (Nat.le_refl _)
  have h2:=aQ6 l 0;unfold bA5 Num;omega
 split
 .exact (aSy l _ _ (by unfold Num;omega) (by unfold Num;omega) hn).2
 .cases l with
  | nil=>unfold Num;simp
  | cons a l=>exact hn a (by simp)
theorem aWt {op a:Int} (h:Num a):Num (aHq op a):=by
 unfold aHq;split
 .unfold Num at *;omega
 .exact aEt _
theorem aTd {op a b:Int}:Num (aDz op a b):=aV9 _
structure SOK (p:Prg) (g:Graph) (c:aA6) (v:Nat):Prop where
 fits:aHs p g=0
 conf:aH5 (aAz p g) c=true
 node:v<g.ports.length
theorem SOK.gok {p:Prg} {g:Graph} {c:aA6} {v:Nat} (h:SOK p g c v):GOK g:=(aAp h.fits).2.1
theorem SOK.len {p:Prg} {g:Graph} {c:aA6} {v:Nat} (h:SOK p g c v):c.length=g.ports.length:=by
 rw [(aCd.1 h.conf).1,aCj,h.gok.ids]
theorem SOK.row {p:Prg} {g:Graph} {c:aA6} {v:Nat} (h:SOK p g c v) {u:Nat} (hu:u<g.ports.length):(c[u]'(by rw [h.len];exact hu)).length=p.vars.length:=by
 have:=(aCd.1 h.conf).2 u (by rw [h.len];exact hu) (by rw [aCj,h.gok.ids];exact hu)
 rw [aF6] at this;have:=(aCc.1 this).1
 rwa [aC4] at this
theorem SOK.val {p:Prg} {g:Graph} {c:aA6} {v:Nat} (h:SOK p g c v) {u i:Nat} (hu:u<g.ports.length) (hi:i<p.vars.length) :
  (aAo p.vars[i] g u).1<=(c[u]'(by rw [h.len];exact hu))[i]'(by rw [h.row hu];exact hi)/\(c[u]'(by rw [h.len];exact hu))[i]'(by rw [h.row hu];exact hi)<=(aAo p.vars[i] g u).2:=by
 have h1:=(aCd.1 h.conf).2 u (by rw [h.len];exact hu) (by rw [aCj,h.gok.ids];exact hu)
 rw [aF6] at h1;have:=(aCc.1 h1).2 i (by rw [h.row hu];exact hi) (by rw [aC4];exact hi)
 rwa [aQv] at this
theorem SOK.small {p:Prg} {g:Graph} {c:aA6} {v:Nat} (h:SOK p g c v) {u i:Nat} (hu:u<g.ports.length) (hi:i<p.vars.length):Num ((c.getD u []).getD i 0):=by
 have h1:=h.val hu hi;have h2:=aI1 (List.all_eq_true.1 (aBl (aAp h.fits).1).1 _ (List.getElem_mem hi)) h.gok hu;have e1:c.getD u []=c[u]'(by rw [h.len];exact hu):=aA8 (by rw [h.len];exact hu)
 rw [e1,aA8 (by rw [h.row hu];exact hi)]
 unfold Num;omega
theorem aJr {g:Graph} (hg:GOK g) {v k:Nat} (hv:v<g.ports.length) (hk:k<g.ports[v].length) :
  aGs g v (k:Int)=g.ports[v][k]/\∃ t:Nat,g.ports[v][k].to=(t:Int)/\t<g.ports.length/\1<=g.ports[v][k].weight/\g.ports[v][k].weight<=15/\g.ports[v].length<g.ports.length:=by
 have h1:=hg.links v hv;obtain ⟨a1,a2,a3,a4,a5⟩:=aC1.1 ((aBq.1 h1).1 _ (List.getElem_mem hk));obtain ⟨t,ht⟩:=Int.eq_ofNat_of_zero_le a1;refine ⟨?_,t,ht,by omega,a4,a5,aCl hv h1⟩
 unfold aGs;rw [aA8 hv,Int.toNat_natCast,aA8 hk]
def aGc (g:Graph) (v:Nat) (b:Bool) (port:Int):Prop:=b=true->∃ k:Nat,port=(k:Int)/\k<(g.ports.getD v []).length
theorem aTp {l:List Int} {k:Nat} {P:Int->Prop} (h0:P 0) (h:∀ x∈l,P x):P (l.getD k 0):=by
 rw [List.getD_eq_getElem?_getD];cases hx:l[k]? with
 | none=>exact h0
 | some x=>exact h x (List.mem_of_getElem? hx)
theorem aZw {g:Graph} (hg:GOK g) {op:Int} {v:Nat} {port:Int} {b:Bool} (hv:v<g.ports.length) (hop:6<=op/\op<=17/\op≠12) (hb:aCz op=true->b=true) (hp:aGc g v b port):Num (aDi g op v port):=by
 have hle:=hg.le;have hids:=hg.ids;obtain ⟨g1,g2⟩:=aIs hg;have hid:∀ k,Num (g.ids.getD k 0):=fun k=>aTp (P:=Num) (by unfold Num;omega) (fun x hx=>by have:=hg.idr x hx;unfold Num;omega)
 have hlen:∀ u,(g.ports.getD u []).length<=24:=fun u=>by
  rcases Nat.lt_or_ge u g.ports.length with h | h
  .rw [aA8 h];have:=aCl h (hg.links u h);omega
  .rw [List.getD_eq_getElem?_getD,List.getElem?_eq_none h];simp
 by_cases hn:11<=op
 .have hnear:aCz op=true:=by unfold aCz;simp;omega
  obtain ⟨k,rfl,hk⟩:=hp (hb hnear);rw [aA8 hv] at hk;obtain ⟨e,t,ht,htl,w1,w2,hl⟩:=aJr hg hv hk;have hr:=aO8 (g.ports.getD t []) (v:Int);have:=hlen t;have hlv:=hlen v;unfold aDi;rw [e,ht,Int.toNat_natCast];generalize g.ports[v][k].weight=wt at *;generalize (g.ports.getD t []).length=len at *;generalize aDu (g.ports.getD t []) (v:Int)=pf at *;generalize (g.ports.getD v []).length=lv at *;generalize aDp g.ids=gm at *;have n0:Num (g.ids.length:Int):=by unfold Num;omega
  have n1:Num gm:=by unfold Num;omega
  have n2:Num (lv:Int):=by unfold Num;omega
  have n3:Num (k:Int):=by unfold Num;omega
  have n4:Num (len:Int):=by unfold Num;omega
  have n5:Num wt:=by unfold Num;omega
  have n6:Num pf:=by unfold Num;omega
  by_cases c1:op=6
  .rw [if_pos c1];exact n0
  rw [if_neg c1]
  by_cases c2:op=7
  .rw [if_pos c2];exact n1
  rw [if_neg c2]
  by_cases c3:op=8
  .rw [if_pos c3];exact hid _
  rw [if_neg c3]
  by_cases c4:op=9
  .rw [if_pos c4];exact n2
  rw [if_neg c4]
  by_cases c5:op=10
  .rw [if_pos c5];exact aEt _
  rw [if_neg c5]
  by_cases c6:op=11
  .rw [if_pos c6];exact n3
  rw [if_neg c6]
  by_cases c7:op=13
  .rw [if_pos c7];exact hid _
  rw [if_neg c7]
  by_cases c8:op=14
  .rw [if_pos c8];exact n4
  rw [if_neg c8]
  by_cases c9:op=15
  .rw [if_pos c9];exact aEt _
  rw [if_neg c9]
  by_cases c10:op=16
  .rw [if_pos c10];exact n5
  rw [if_neg c10];exact n6
 .unfold aDi
  have hlv:=hlen v
  by_cases c1:op=6
  .rw [if_pos c1];unfold Num;omega
  rw [if_neg c1]
  by_cases c2:op=7
  .rw [if_pos c2];unfold Num;omega
  rw [if_neg c2]
  by_cases c3:op=8
  .rw [if_pos c3];exact hid _
  rw [if_neg c3]
  by_cases c4:op=9
  .rw [if_pos c4];unfold Num;omega
  rw [if_neg c4]
  by_cases c5:op=10
  .rw [if_pos c5];exact aEt _
  exfalso;omega
theorem bA3 {p:Prg} {g:Graph} {c:aA6} {v:Nat} (h:SOK p g c v) {t:Term} {port:Int} {b:Bool} (har:aAj t.op=0) (ha:aG5 t p.vars.length=true) (hb:aCz t.op=true->b=true) (hp:aGc g v b port):Num (aGl g c v port t):=by
 have hr:=(aBa t.op).1 har;obtain ⟨op,arg⟩:=t;dsimp only at *;unfold aGl;dsimp only
 by_cases h1:op=1
 .rw [if_pos h1]
  subst h1;have hd:decide (0<=arg/\arg<=1073741824)=true:=ha;have:=of_decide_eq_true hd;unfold Num;omega
 rw [if_neg h1];split
 .unfold Num;omega
 split
 .unfold Num;omega
 split
 .unfold Num;omega
 split
 .rename_i h5
  obtain ⟨a1,a2⟩:=aHy ha (.inl h5);obtain ⟨a,rfl⟩:=Int.eq_ofNat_of_zero_le a1;rw [Int.toNat_natCast];exact h.small h.node (by omega)
 split
 .rename_i h12
  obtain ⟨a1,a2⟩:=aHy ha (.inr h12);obtain ⟨a,rfl⟩:=Int.eq_ofNat_of_zero_le a1;obtain ⟨k,rfl,hk⟩:=hp (hb (by unfold aCz;simp;omega))
  rw [aA8 h.node] at hk;obtain ⟨e,t,ht,htl,_⟩:=aJr h.gok h.node hk;rw [e,ht,Int.toNat_natCast,Int.toNat_natCast];exact h.small htl (by omega)
 .rename_i h2 h3 h4 h5 h12
  exact aZw h.gok h.node (by omega) hb hp
theorem aYj {g:Graph} (hg:GOK g) {v:Nat} (hv:v<g.ports.length):(g.ports.getD v []).length<24:=by
 rw [aA8 hv];have:=aCl hv (hg.links v hv);have:=hg.le;omega
theorem aH6 {p:Prg} {g:Graph} {c:aA6} {v:Nat} (h:SOK p g c v) {x:Ex} (hx:x.ok) (ha:∀ t∈x.terms,aG5 t p.vars.length=true):∀ {b:Bool} {port:Int},aB5 b x->aGc g v b port->Num (aAt g c v port x):=by
 induction x with
 | leaf t=>intro b port hb hp;exact bA3 h hx (ha t (by simp [Ex.terms])) hb hp
 | un t a ih =>
  intro b port hb hp
  have ha':∀ s∈a.terms,aG5 s p.vars.length=true:=fun s hs=>ha s (by simp [Ex.terms,hs])
  simp only [aAt]
  split
  .rename_i hag
   refine aXo (fun y hy=>?_) (by rw [List.length_map,List.length_range];have:=aYj h.gok h.node;omega)
   obtain ⟨k,hk,rfl⟩:=List.mem_map.1 hy;rw [List.mem_range] at hk;refine ih hx.2 ha' (b:=true) ?_ (fun _=>⟨k,rfl,hk⟩)
   have hb':aB5 (b||aAc t.op) a:=hb
   rwa [hag,Bool.or_true] at hb'
  .rename_i hag
   refine aWt (ih hx.2 ha' (b:=b) ?_ hp)
   have hb':aB5 (b||aAc t.op) a:=hb
   rwa [show aAc t.op=false by simpa using hag,Bool.or_false] at hb'
 | bin t x y ihx ihy=>intro b port hb hp;exact aTd
 | tri t x y z ihx ihy ihz =>
  intro b port hb hp
  simp only [aAt]
  obtain ⟨_,_,o2,o3⟩:=hx;split
  .exact ihy o2 (fun s hs=>ha s (by simp [Ex.terms,hs])) hb.2.1 hp
  .exact ihz o3 (fun s hs=>ha s (by simp [Ex.terms,hs])) hb.2.2 hp
theorem aXk {op:Int} (h:6<=op/\op<=17/\op≠12):(op=6∨op=7∨op=8∨op=9∨op=10∨op=11)∨(op=13∨op=14∨op=15∨op=16∨op=17):=by omega
theorem aU9 (v2:Value) (g:Graph) (op:Int) (v:Nat) (port:Int) (b:Bool) (w:World) (h2:aAn w v2 g) (hg:GOK g) (hv:v<g.ports.length) (hop:6<=op/\op<=17/\op≠12) (hb:aCz op=true->b=true) (hp:aGc g v b port) :
  Calls prog 151 #[v2,.int .i64 op,.int .i64 v,.int .i64 port] w fun e w'=>e = .returned (.int .i64 (aDi g op v port))/\Bel w w':=by
 have HGV:=aA0 (fun w' (k:Bel w w')=>h2.keep k);obtain ⟨A,k,A2,k2,rfl,hI,_,_,hP,_,_⟩:=h2;have hids:=hg.ids;have hle:=hg.le;have hvi:v<g.ids.length:=by omega
 have hl1000:g.ids.length<=1000:=by omega
 obtain ⟨b1,o1,rfl,hb1,hid⟩:=hI.at_ v hvi;obtain ⟨b2,o2,R,rc,rfl,hb2,hrow,hL,_,_⟩:=hP.at_ v hv;have HB:=(Bel.refl w).alloc (.cells #[.slice (some ⟨b1,o1,none⟩) g.ids.length k,.slice (some ⟨b2,o2,none⟩) g.ports.length k2] 29);have hdv:decide (v<g.ports.length)=true:=by simpa using hv
 have hdi:decide (v<g.ids.length)=true:=by simpa using hvi
 have HID:=aA0 hids;clear hids
 rcases aXk hop with (rfl | rfl | rfl | rfl | rfl | rfl) | hnear
 .have HF:Hid (aDi g 6 v port=g.ports.length):=by show aDi g 6 v port=_;unfold aDi;rw [if_pos rfl,HID.out]
  clear hI hP hb hp hop;go_enter func151,ntmps151;go_wp2;go_ret;exact ⟨aA5 HF.out.symm,HB⟩
 .clear hI hP hb hp hop
  have HF:Hid (aDi g 7 v port=aDp g.ids):=rfl;go_enter func151,ntmps151
  go_wp2_with (go_at_call 115;refine (aLs _ g _ (HGV.out _ HB) hl1000).mono ?_;rintro e w' ⟨rfl,hbb⟩;replace HB:=HB.trans hbb;clear hbb)
  go_ret;exact ⟨aA5 HF.out.symm,HB⟩
 .have HF:Hid (aDi g 8 v port=g.ids[v]):=aA8 hvi
  clear hI hP hb hp hop;go_enter func151,ntmps151;go_wp2;go_ret;exact ⟨aA5 HF.out.symm,HB⟩
 .have HF:Hid (aDi g 9 v port=(g.ports[v].length:Int)):=by show aDi g 9 v port=_;rw [<- aA8 (d:=[]) hv];rfl
  clear hI hP hb hp hop;go_enter func151,ntmps151;go_wp2;go_ret;exact ⟨aA5 HF.out.symm,HB⟩
 .have HF:Hid (aDi g 10 v port=aBj (decide (v=0))):=rfl
  obtain ⟨z,hz⟩:∃ z,decide (v=0)=z:=⟨_,rfl⟩;rw [hz] at HF;have hz1:((v:Int)==0)=z:=by rw [<- hz,Bool.eq_iff_iff];simp
  have hz2:(v==0)=z:=by rw [<- hz,Bool.eq_iff_iff];simp
  clear hI hP hb hp hop hz;go_enter func151,ntmps151
  go_wp2_with (go_at_call 152;refine (aCf _ _).mono ?_;rintro e w' ⟨rfl,rfl⟩)
  go_ret;exact ⟨aA5 HF.out.symm,HB⟩
 .have HF:Hid (aDi g 11 v port=port):=rfl
  clear hI hP hb hp hop;go_enter func151,ntmps151;go_wp2;go_ret;exact ⟨aA5 HF.out.symm,HB⟩
 .obtain ⟨q,rfl,hq⟩:=hp (hb (by unfold aCz;simp;omega))
  rw [aA8 hv] at hq;obtain ⟨e,t,ht,htl,_⟩:=aJr hg hv hq;obtain ⟨b3,o3,rfl,hb3,hto,hwe⟩:=hL.at_ q hq;have hti:t<g.ids.length:=by rw [HID.out];exact htl
  obtain ⟨b4,o4,e4,_,hid4⟩:=hI.at_ t hti;obtain ⟨rfl,rfl⟩:b1=b4/\o1=o4:=by simpa using e4
  obtain ⟨b5,o5,R5,rc5,e5,_,hrow5,_,_,_⟩:=hP.at_ t htl;obtain ⟨rfl,rfl⟩:b2=b5/\o2=o5:=by simpa using e5
  rw [ht] at hto;have hdt:decide (t<g.ports.length)=true:=by simpa using htl
  have hdti:decide (t<g.ids.length)=true:=by simpa using hti
  have hdq:decide (q<g.ports[v].length)=true:=by simpa using hq
  have HE:=aA0 e;have HT:=aA0 ht;clear hI hP hb hp hop e4 e5 e ht hL
  rcases hnear with rfl | rfl | rfl | rfl | rfl
  .have HF:Hid (aDi g 13 v (q:Int)=g.ids[t]):=by show g.ids.getD (aGs g v q).to.toNat 0=_;rw [HE.out,HT.out,Int.toNat_natCast,aA8 hti]
   go_enter func151,ntmps151;go_wp2;go_ret;exact ⟨aA5 HF.out.symm,HB⟩
  .have HF:Hid (aDi g 14 v (q:Int)=(g.ports[t].length:Int)):=by show ((g.ports.getD (aGs g v q).to.toNat []).length:Int)=_;rw [HE.out,HT.out,Int.toNat_natCast,aA8 htl]
   go_enter func151,ntmps151;go_wp2;go_ret;exact ⟨aA5 HF.out.symm,HB⟩
  .have HF:Hid (aDi g 15 v (q:Int)=aBj (decide ((t:Int)=0))):=by show aBj (decide ((aGs g v q).to=0))=_;rw [HE.out,HT.out]
   obtain ⟨z,hz⟩:∃ z,decide ((t:Int)=0)=z:=⟨_,rfl⟩;rw [hz] at HF;have hz1:((t:Int)==0)=z:=by rw [<- hz,Bool.eq_iff_iff];simp
   have hz2:(t==0)=z:=by rw [<- hz,Bool.eq_iff_iff];simp
   clear hz;go_enter func151,ntmps151
   go_wp2_with (go_at_call 152;refine (aCf _ _).mono ?_;rintro e w' ⟨rfl,rfl⟩)
   go_ret;exact ⟨aA5 HF.out.symm,HB⟩
  .have HF:Hid (aDi g 16 v (q:Int)=g.ports[v][q].weight):=by show (aGs g v q).weight=_;rw [HE.out]
   go_enter func151,ntmps151;go_wp2;go_ret;exact ⟨aA5 HF.out.symm,HB⟩
  .have HF:Hid (aDi g 17 v (q:Int)=aDu g.ports[t] v):=by show aDu (g.ports.getD (aGs g v q).to.toNat []) v=_;rw [HE.out,HT.out,Int.toNat_natCast,aA8 htl]
   go_enter func151,ntmps151
   go_wp2_with (go_at_call 98;refine (aPl _ g t (v:Int) _ (HGV.out _ HB) htl).mono ?_;rintro e w' ⟨rfl,hbb⟩;replace HB:=HB.trans hbb;clear hbb)
   go_ret;exact ⟨aA5 HF.out.symm,HB⟩
theorem aXy {op:Int} (h:1<=op/\op<=17):(op=1∨op=2∨op=3∨op=4)∨op=5∨op=12∨(6<=op/\op<=17/\op≠12):=by omega
theorem aSe (v2:Value) (p:Prg) (g:Graph) (v3:Value) (c:aA6) (v:Nat) (port:Int) (t:Term) (b:Bool) (w:World) (h2:aAn w v2 g) (h3:aAw w v3 c) (hs:SOK p g c v) (har:aAj t.op=0) (ha:aG5 t p.vars.length=true) (hb:aCz t.op=true->b=true) (hp:aGc g v b port) :
  Calls prog 133 #[v2,v3,.int .i64 v,.int .i64 port,.agg #[.int .i64 t.op,.int .i64 t.arg]] w fun e w'=>e = .returned (.int .i64 (aGl g c v port t))/\Bel w w':=by
 have hr:=(aBa t.op).1 har;have HGV:=aA0 (fun w' (k:Bel w w')=>h2.keep k);obtain ⟨A,k,A2,k2,rfl,hI,_,_,hP,_,_⟩:=h2;obtain ⟨A3,k3,rfl,hC,_,_⟩:=h3;obtain ⟨op,arg⟩:=t;dsimp only at *;have hv:=hs.node;have hdv:decide (v<c.length)=true:=by simp [hs.len,hv]
 have HB:=((Bel.refl w).alloc (.cells #[.slice A g.ids.length k,.slice A2 g.ports.length k2] 29)).alloc (.cells #[.int .i64 op,.int .i64 arg] 98)
 rcases aXy hr with hq | rfl | rfl | hq
 .clear hI hP hC hb hp har
  have HF:Hid (aGl g c v port ⟨op,arg⟩=if op=1 then arg else if op=2 then 1 else if op=3 then 0 else -1):=by
   show aGl g c v port ⟨op,arg⟩=_
   unfold aGl
   rcases hq with rfl | rfl | rfl | rfl <;> simp
  rcases hq with rfl | rfl | rfl | rfl
  all_goals
   go_enter func133,ntmps133;go_wp2;go_ret;exact ⟨aA5 HF.out.symm,HB⟩
 .obtain ⟨a1,a2⟩:=aHy ha (.inl rfl)
  obtain ⟨a,rfl⟩:=Int.eq_ofNat_of_zero_le a1;have hvc:v<c.length:=by rw [hs.len];exact hv
  have hac:a<c[v].length:=by rw [hs.row hv];omega
  obtain ⟨b1,o1,R,rc,rfl,hb1,hrow,hR,_,_⟩:=hC.at_ v hvc;obtain ⟨b2,o2,rfl,hb2,hval⟩:=hR.at_ a hac
  have HF:Hid (aGl g c v port ⟨5,(a:Int)⟩=c[v][a]):=by
   show (c.getD v []).getD (a:Int).toNat 0=_
   rw [Int.toNat_natCast,aA8 hvc,aA8 hac]
  have hda:decide (a<c[v].length)=true:=by simpa using hac
  clear hI hP hC hb hp har hR ha;go_enter func133,ntmps133;go_wp2
  go_quiet (fail)
  go_wp2;go_ret;exact ⟨aA5 HF.out.symm,HB.drewN _⟩
 .obtain ⟨a1,a2⟩:=aHy ha (.inr rfl)
  obtain ⟨a,rfl⟩:=Int.eq_ofNat_of_zero_le a1;obtain ⟨q,rfl,hq⟩:=hp (hb (by unfold aCz;simp))
  rw [aA8 hv] at hq;obtain ⟨e,t,ht,htl,_⟩:=aJr hs.gok hv hq;obtain ⟨b3,o3,R3,rc3,rfl,hb3,hrow3,hL3,_,_⟩:=hP.at_ v hv;obtain ⟨b4,o4,rfl,hb4,hto,_⟩:=hL3.at_ q hq;rw [ht] at hto;have htc:t<c.length:=by rw [hs.len];exact htl
  have hac:a<c[t].length:=by rw [hs.row htl];omega
  obtain ⟨b1,o1,R,rc,rfl,hb1,hrow,hR,_,_⟩:=hC.at_ t htc;obtain ⟨b2,o2,rfl,hb2,hval⟩:=hR.at_ a hac
  have HF:Hid (aGl g c v (q:Int) ⟨12,(a:Int)⟩=c[t][a]):=by
   show (c.getD (aGs g v q).to.toNat []).getD (a:Int).toNat 0=_
   rw [e,ht,Int.toNat_natCast,Int.toNat_natCast,aA8 htc,aA8 hac]
  have hda:decide (a<c[t].length)=true:=by simpa using hac
  have hdt:decide (t<c.length)=true:=by simpa using htc
  have hdp:decide (v<g.ports.length)=true:=by simpa using hv
  have hdq:decide (q<g.ports[v].length)=true:=by simpa using hq
  clear hI hP hC hb hp har hR ha hL3 e ht;go_enter func133,ntmps133;go_wp2
  go_quiet (fail)
  go_wp2;go_ret;exact ⟨aA5 HF.out.symm,HB.drewN _⟩
 .have HF:Hid (aGl g c v port ⟨op,arg⟩=aDi g op v port):=by
   show aGl g c v port ⟨op,arg⟩=_
   unfold aGl;dsimp only;rw [if_neg (by omega),if_neg (by omega),if_neg (by omega),if_neg (by omega),if_neg (by omega),if_neg (by omega)]
  have e1:(op==1)=false:=by simp;omega
  have e2:(op==2)=false:=by simp;omega
  have e3:(op==3)=false:=by simp;omega
  have e4:(op==4)=false:=by simp;omega
  have e5:(op==5)=false:=by simp;omega
  have e12:(op==12)=false:=by simp;omega
  have HG:=aA0 hs.gok;have HQ:=aA0 hq;have HBB:=aA0 hb;have HPP:=aA0 hp;clear hI hP hC hb hp har ha hq;go_enter func133,ntmps133
  go_wp2_with (go_at_call 151;refine (aU9 _ g op v port b _ (HGV.out _ HB) HG.out hv HQ.out HBB.out HPP.out).mono ?_;rintro e w' ⟨rfl,hbb⟩;replace HB:=HB.trans hbb;clear hbb)
  go_ret;exact ⟨aA5 HF.out.symm,HB⟩
theorem aG2 {es:List Term} {k:Nat} {x:Ex} (h:x.At es k):∀ t∈x.terms,t∈es:=by
 obtain ⟨_,r,hr⟩:=h;intro t ht
 have:t∈es.drop k:=by rw [hr];exact List.mem_append_left _ ht
 exact List.mem_of_mem_drop this
def AtOk (p:Prg) (g:Graph) (c:aA6) (v:Nat) (x:Ex):Prop :=
 ∀ (b:Bool) (port:Int) (gv cv:Value) (A:Option Addr) (ce:Nat) (es:List Term) (k:Nat) (w:World),aAn w gv g->aAw w cv c->aB2 w A es.length es->x.At es k->(∀ t∈es,aG5 t p.vars.length=true)->es.length<=1000->aB5 b x->aGc g v b port ->
  Calls prog 118 #[gv,cv,.int .i64 v,.int .i64 port,.slice A es.length ce,.int .i64 k] w fun e w'=>e = .returned (.int .i64 (aAt g c v port x))/\Bel w w'
theorem aXb (p:Prg) (g:Graph) (c:aA6) (v:Nat) (hs:SOK p g c v) (x:Ex):AtOk p g c v x:=by
 induction x with
 | leaf t =>
  intro b port gv cv A ce es k w hgv hcv hT hat harg hlen hbo hpo
  have hlt:=At.lt hat;obtain ⟨hh,har⟩:=At.leaf hat;obtain ⟨b1,o1,rfl,hb1,c1,c2⟩:=hT.at_ k hlt;have hhe:es[k]=t:=by rw [List.getElem?_eq_getElem hlt] at hh;simpa using hh
  rw [hhe] at c1 c2;have HARG:=aA0 (show aG5 t p.vars.length=true by rw [<- hhe];exact harg _ (List.getElem_mem hlt))
  have HGV:=aA0 (fun w' (k:Bel w w')=>hgv.keep k);have HCV:=aA0 (fun w' (k:Bel w w')=>hcv.keep k);obtain ⟨A2,k2,A3,k3,rfl,_,_,_,_,_,_⟩:=hgv;obtain ⟨A4,k4,rfl,_,_,_⟩:=hcv;have HAR:=aA0 har;have HBO:=aA0 (show aCz t.op=true->b=true from hbo)
  have HPO:=aA0 hpo;have HS:=aA0 hs;have HB:=Bel.refl (w.alloc (.cells #[.slice A2 g.ids.length k2,.slice A3 g.ports.length k3] 29));have hcell:=aA0 (fun w' (kk:Bel (w.alloc (.cells #[.slice A2 g.ids.length k2,.slice A3 g.ports.length k3] 29)) w')=>And.intro (aA9 kk 0 (v := .slice A2 g.ids.length k2) rfl) (And.intro (aA9 kk 1 (v := .slice A3 g.ports.length k3) rfl) (And.intro (((aA3 kk).cell hb1).trans c1) (And.intro (((aA3 kk).cell hb1).trans c2) (aAy kk)))));have hdk:decide (k<es.length)=true:=by simpa using hlt
  have hk0:(0:Int)<=(k:Int):=by omega
  have hk1:(k:Int)<(es.length:Int):=by omega
  clear hh hhe harg hT har hat hbo hpo;go_enter func118,ntmps118
  go_wp2_with (go_at_call 132;refine (aAs _ _).mono ?_;rintro e w' ⟨rfl,rfl⟩;rw [HAR.out])
  replace HB:=HB.drew
  go_region_held3 (fun w'=>w'.cell? ⟨w.heap.size,0,none⟩=some (.slice A2 g.ids.length k2)/\w'.cell? ⟨w.heap.size,1,none⟩=some (.slice A3 g.ports.length k3)/\w'.cell? ⟨b1,o1+k*2,none⟩=some (.int .i64 t.op)/\w'.cell? ⟨b1,o1+k*2+1,none⟩=some (.int .i64 t.arg)/\w.heap.size<w'.heap.size) (exact hcell.out _ HB) (first | (go_simp;go_at_call 133;refine (aSe _ p g _ c v port t b _ (HGV.out _ (aA3 HB)) (HCV.out _ (aA3 HB)) HS.out HAR.out HARG.out HBO.out HPO.out).mono ?_;rintro e w' ⟨rfl,hbb⟩;replace HB:=HB.trans hbb;clear hbb))
  go_wp2_with fail
  go_ret;exact ⟨rfl,aA3 HB⟩
 | un t a ih =>
  intro b port gv cv A ce es k w hgv hcv hT hat harg hlen hbo hpo
  have hlt:=At.lt hat;obtain ⟨hh,har,ha⟩:=At.un hat;have hbd:=At.bound ha;obtain ⟨b1,o1,rfl,hb1,c1,c2⟩:=hT.at_ k hlt;have hhe:es[k]=t:=by rw [List.getElem?_eq_getElem hlt] at hh;simpa using hh
  rw [hhe] at c1 c2;have HGV:=aA0 (fun w' (k:Bel w w')=>hgv.keep k);have HCV:=aA0 (fun w' (k:Bel w w')=>hcv.keep k);have HT:=aA0 (fun w' (k:Bel w w')=>aB2.keep hT k);obtain ⟨A2,k2,A3,k3,rfl,_,_,_,hP,_,_⟩:=hgv;obtain ⟨A4,k4,rfl,_,_,_⟩:=hcv;have HP:=aA0 (fun w' (k:Bel w w')=>aFa.keep hP k);have HAR:=aA0 har;have HARG:=aA0 harg;have HIH:=aA0 ih;have HATA:=aA0 ha;have hv:=hs.node;have hop:=(aBa t.op).2.1 har;have HB:=Bel.refl (w.alloc (.cells #[.slice A2 g.ids.length k2,.slice A3 g.ports.length k3] 29));have HNA:=aA0 (fun (b':Bool) (q:Int) (h1:aB5 b' a) (h2:aGc g v b' q)=>aH6 hs ha.1 (fun t ht=>harg t (aG2 ha t ht)) h1 h2);cases hag:aAc t.op with
  | true =>
   have HBO:Hid (aB5 true a):=by
    have hb':aB5 (b||aAc t.op) a:=hbo;rw [hag,Bool.or_true] at hb';exact hb'
   have HE:Hid (aAt g c v port (.un t a)=aJ2 t.op ((List.range g.ports[v].length).map fun (q:Nat)=>aAt g c v (q:Int) a)):=by
    show aAt g c v port (.un t a)=_
    simp only [aAt,hag,if_true]
    rw [aA8 hv]
   have hrl:g.ports[v].length<=24:=by have:=aCl hv (hs.gok.links v hv);have:=hs.gok.le;omega
   obtain ⟨hop1,hop2⟩:20<=t.op/\t.op<=29:=by unfold aAc at hag;exact of_decide_eq_true hag
   have HAG:=aA0 hag;obtain ⟨i0,hi0,hz0,hz1,hz2⟩:=info_parts aH8;have HPK:Hid (∀ q:Nat,q<g.ports[v].length->aGc g v true (q:Int)):=fun q hq _=>⟨q,rfl,by rw [aA8 hv];exact hq⟩
   clear hh hhe harg hT har hat hbo hpo hP ih ha hag;go_enter func118,ntmps118
   go_wp2_with (first
    | (go_at_call 132;refine (aAs _ _).mono ?_;rintro e w' ⟨rfl,rfl⟩;rw [HAR.out])
    | (go_at_call 134;refine (aDy _ _).mono ?_;rintro e w' ⟨rfl,rfl⟩;rw [HAG.out]))
   go_loopg [14,15] g.ports[v].length (fun m s z wr=>∃ (j:Nat) (R:Option Addr) (rc:Nat),j<=g.ports[v].length/\m=g.ports[v].length-j/\z = .int .i64 j/\s = .slice R j rc/\Hid (wr.ownsRow (w.heap.size+1) 3 1 (.slice R j rc) j (((List.range j).map fun (q:Nat)=>aAt g c v (q:Int) a).map (Value.int .i64)))/\Bel (w.alloc (.cells #[.slice A2 g.ids.length k2,.slice A3 g.ports.length k3] 29)) wr)
   case atStart=>exact ⟨0,none,0,by omega,rfl,rfl,rfl,World.ownsRow_nil _ _ _ _,HB⟩
   case round =>
    clear HB;obtain ⟨j,R,rc,hj,rfl,rfl,rfl,HO,HB⟩:=hrel;have q0:=aA9 HB 0 rfl;have q1:=aA9 HB 1 rfl;have q2:=aAy HB;obtain ⟨b2,o2,R2,rc2,rfl,hb2,hrow,_,_,_⟩:=(HP.out _ (aA3 HB)).at_ v hv;have hdv:decide (v<g.ports.length)=true:=by simpa using hv
    by_cases hlt2:j<g.ports[v].length
    .have hd0:decide (j<g.ports[v].length)=true:=by simpa using hlt2
     have HST:Hid (((List.range (j+1)).map fun (q:Nat)=>aAt g c v (q:Int) a).map (Value.int .i64)=((List.range j).map fun (q:Nat)=>aAt g c v (q:Int) a).map (Value.int .i64)++[.int .i64 (aAt g c v (j:Int) a)]):=by
      show ((List.range (j+1)).map fun (q:Nat)=>aAt g c v (q:Int) a).map (Value.int .i64)=_
      rw [List.range_succ,List.map_append,List.map_append];rfl
     go_wp2_with fail
     refine (HIH.out true (j:Int) _ _ _ _ es (k+1) _ (HGV.out _ (aA3 HB)) (HCV.out _ (aA3 HB)) (HT.out _ (aA3 HB)) HATA.out HARG.out hlen HBO.out (HPK.out j hlt2)).mono ?_
     rintro e w4 ⟨rfl,hbb⟩;replace HB:=HB.trans hbb;replace HO:=aA0 (hbb.owns HO.out);clear hbb q0 q1 q2 hb2 hrow;have hsz:=aAy HB
     go_wp2_with (at_builtin;refine aEu _ rfl (.tmp 52) (.tmp 61) 26 rfl (w.heap.size+1) 3 i0 (.int .i64 0) 1 8 underlying26 hi0 hz0 hz1 hz2 rfl (by decide) R j rc _ (by simp [Act.eval]) (HO.out.alloc _) w4.heap.size #[.int .i64 (aAt g c v (j:Int) a)] 3 (0,0) (by simp [Act.eval]) (aFe _ _) rfl (aNz _ _) (by unfold maxLen;omega) (by omega) (by simp;omega) ?_;intro R2 rc2 w5 hown hgr hat;have HB2:=(HB.alloc _).pushB (HO.out.alloc _) (by simp) hgr;have HO2:=aA0 hown;clear hown hgr hat)
     go_roundg (g.ports[v].length-(j+1))
     case rel =>
      refine ⟨j+1,R2,rc2,by omega,rfl,by go_num,rfl,?_,HB2⟩
      show World.ownsRow _ _ _ _ _ _ _
      rw [HST.out];exact HO2.out
     case measure=>omega
    .obtain rfl:j=g.ports[v].length:=by omega
     have hd0:decide (g.ports[v].length<g.ports[v].length)=false:=by simp
     have HI:=aA0 (aKl HO.out)
     have HNN:Hid (∀ y∈(List.range g.ports[v].length).map fun (q:Nat)=>aAt g c v (q:Int) a,Num y):=by
      intro y hy
      obtain ⟨q,hq,rfl⟩:=List.mem_map.1 hy;exact HNA.out true q HBO.out (HPK.out q (List.mem_range.1 hq))
     go_wp2_with (go_at_call 135;refine (aUb _ _ _ _ t.op _ HI.out (by omega) hop1 hop2 HNN.out).mono ?_;rintro e w' ⟨rfl,rfl⟩)
     go_ret;exact ⟨aA5 HE.out.symm,aA3 HB⟩
  | false =>
   have HBO:Hid (aB5 b a):=by
    have hb':aB5 (b||aAc t.op) a:=hbo;rw [hag,Bool.or_false] at hb';exact hb'
   have HE:Hid (aAt g c v port (.un t a)=aHq t.op (aAt g c v port a)):=by
    show aAt g c v port (.un t a)=_
    simp only [aAt,hag];rfl
   have HUR:Hid ((aGi t.op (aAt g c v port a)).1=aHq t.op (aAt g c v port a)):=by
    show (aGi t.op (aAt g c v port a)).1=_
    unfold aGi;have hnu:=aNx (HNA.out b port HBO.out hpo);unfold aAc at hag;have:=of_decide_eq_false hag;rw [if_neg (by rw [hnu];simp;omega)]
   have HAG:=aA0 hag;have HPO:=aA0 hpo;clear hh hhe harg hT har hat hbo hpo hP ih ha hag;go_enter func118,ntmps118
   go_wp2_with (first
    | (go_at_call 132;refine (aAs _ _).mono ?_;rintro e w' ⟨rfl,rfl⟩;rw [HAR.out])
    | (go_at_call 134;refine (aDy _ _).mono ?_;rintro e w' ⟨rfl,rfl⟩;rw [HAG.out])
    | (go_at_call 118;refine (HIH.out b port _ _ _ _ es (k+1) _ (HGV.out _ (aA3 HB)) (HCV.out _ (aA3 HB)) (HT.out _ (aA3 HB)) HATA.out HARG.out hlen HBO.out HPO.out).mono ?_;rintro e w4 ⟨rfl,hbb⟩;replace HB:=HB.trans hbb;clear hbb)
    | (go_at_call 136;refine (aSl _ _ _).mono ?_;rintro e w' ⟨rfl,rfl⟩;rw [HUR.out]))
   go_ret;exact ⟨aA5 HE.out.symm,aA3 HB⟩
 | bin t a d iha ihd =>
  intro b port gv cv A ce es k w hgv hcv hT hat harg hlen hbo hpo
  have hlt:=At.lt hat;obtain ⟨hh,har,ha,hd1⟩:=At.bin hat;have hbd:=At.bound ha;have hbd2:=At.bound hd1;have hopn:=At.operand1 hat hh (by omega) ha
  obtain ⟨b1,o1,rfl,hb1,c1,c2⟩:=hT.at_ k hlt;have hhe:es[k]=t:=by rw [List.getElem?_eq_getElem hlt] at hh;simpa using hh
  rw [hhe] at c1 c2;have HGV:=aA0 (fun w' (k:Bel w w')=>hgv.keep k);have HCV:=aA0 (fun w' (k:Bel w w')=>hcv.keep k);have HT:=aA0 (fun w' (k:Bel w w')=>aB2.keep hT k);obtain ⟨A2,k2,A3,k3,rfl,_,_,_,_,_,_⟩:=hgv;obtain ⟨A4,k4,rfl,_,_,_⟩:=hcv;have HAR:=aA0 har;have HARG:=aA0 harg;have HPO:=aA0 hpo;have HI1:=aA0 iha;have HI2:=aA0 ihd;have HA1:=aA0 ha;have HA2:=aA0 hd1;have HOP:=aA0 hopn;have HB:=Bel.refl (w.alloc (.cells #[.slice A2 g.ids.length k2,.slice A3 g.ports.length k3] 29));have hcell:=aA0 (fun w' (kk:Bel (w.alloc (.cells #[.slice A2 g.ids.length k2,.slice A3 g.ports.length k3] 29)) w')=>And.intro (aA9 kk 0 (v := .slice A2 g.ids.length k2) rfl) (And.intro (aA9 kk 1 (v := .slice A3 g.ports.length k3) rfl) (aAy kk)));have hw1:IntKind.i64.wrap ((k:Int)+1)=(k:Int)+1:=IntWalk.i64_in _ (by omega)
  have HK1:=aA0 (show (k:Int)+1=((k+1:Nat):Int) by omega)
  have HK2:=aA0 (show (k:Int)+1+(a.len:Int)=((k+1+a.len:Nat):Int) by omega)
  have HBO1:Hid (aB5 b a):=hbo.1;have HBO2:Hid (aB5 b d):=hbo.2;have hop:=(aBa t.op).2.2.1 har
  have HE:Hid ((aCp t.op (aAt g c v port a) (aAt g c v port d)).1=aAt g c v port (.bin t a d)):=by
   show (aCp t.op (aAt g c v port a) (aAt g c v port d)).1=aDz t.op (aAt g c v port a) (aAt g c v port d)
   have n1:=aNx (aH6 hs ha.1 (fun t ht=>harg t (aG2 ha t ht)) hbo.1 hpo);have n2:=aNx (aH6 hs hd1.1 (fun t ht=>harg t (aG2 hd1 t ht)) hbo.2 hpo);unfold aCp;rw [if_neg (by rw [n1,n2];simp;omega)]
  have hpa:=a.pos
  have HC1:=aA0 (fun (i:Int) (w':World) (hi:i=(k:Int)+1) (kk:Bel w w')=>show Calls prog 118 #[.agg #[.slice A2 g.ids.length k2,.slice A3 g.ports.length k3],.slice A4 c.length k4,.int .i64 v,.int .i64 port,.slice (some ⟨b1,o1,none⟩) es.length ce,.int .i64 i] w' (fun e w2=>e = .returned (.int .i64 (aAt g c v port a))/\Bel w' w2) by
   rw [hi];exact HI1.out b port _ _ _ _ es (k+1) _ (HGV.out _ kk) (HCV.out _ kk) (HT.out _ kk) HA1.out HARG.out hlen HBO1.out HPO.out)
  have HC2:=aA0 (fun (i:Int) (w':World) (hi:i=(k:Int)+1+(a.len:Int)) (kk:Bel w w')=>show Calls prog 118 #[.agg #[.slice A2 g.ids.length k2,.slice A3 g.ports.length k3],.slice A4 c.length k4,.int .i64 v,.int .i64 port,.slice (some ⟨b1,o1,none⟩) es.length ce,.int .i64 i] w' (fun e w2=>e = .returned (.int .i64 (aAt g c v port d))/\Bel w' w2) by
   rw [hi,HK2.out];exact HI2.out b port _ _ _ _ es (k+1+a.len) _ (HGV.out _ kk) (HCV.out _ kk) (HT.out _ kk) HA2.out HARG.out hlen HBO2.out HPO.out)
  clear hh hhe harg hT har hat hbo hpo iha ihd ha hd1 hopn;go_enter func118,ntmps118
  go_wp2_with (go_at_call 132;refine (aAs _ _).mono ?_;rintro e w' ⟨rfl,rfl⟩;rw [HAR.out])
  replace HB:=HB.drew
  go_region_held3 (fun w'=>w'.cell? ⟨w.heap.size,0,none⟩=some (.slice A2 g.ids.length k2)/\w'.cell? ⟨w.heap.size,1,none⟩=some (.slice A3 g.ports.length k3)/\w.heap.size<w'.heap.size) (exact hcell.out _ HB)
   (first
    | (go_simp;go_at_call 138;refine (aBk _ _ _ es _ _ _ (HT.out _ (aA3 HB)) (by omega)).mono ?_;rintro e w' ⟨rfl,rfl⟩;rw [HOP.out])
    | (go_simp;go_at_call 118;first
      | (refine Calls.mono (HC1.out _ _ ?_ (aA3 HB)) ?_;omega;rintro e w4 ⟨rfl,hbb⟩;replace HB:=HB.trans hbb;clear hbb)
      | (refine Calls.mono (HC2.out _ _ ?_ (aA3 HB)) ?_;omega;rintro e w4 ⟨rfl,hbb⟩;replace HB:=HB.trans hbb;clear hbb))
    | (go_simp;go_at_call 137;refine (aQt _ _ _ _).mono ?_;rintro e w' ⟨rfl,rfl⟩;rw [HE.out]))
  all_goals
   go_wp2_with fail
   go_ret;exact ⟨rfl,aA3 HB⟩
 | tri t a d f iha ihd ihf =>
  intro b port gv cv A ce es k w hgv hcv hT hat harg hlen hbo hpo
  have hlt:=At.lt hat;obtain ⟨hh,har,ha,hd1,hf1⟩:=At.tri hat;have hbd:=At.bound ha;have hbd2:=At.bound hd1;have hbd3:=At.bound hf1;have hopn:=At.operand1 hat hh (by omega) ha
  have hopn2:=At.operand2 hat hh (by omega) ha hd1
  obtain ⟨b1,o1,rfl,hb1,c1,c2⟩:=hT.at_ k hlt;have hhe:es[k]=t:=by rw [List.getElem?_eq_getElem hlt] at hh;simpa using hh
  rw [hhe] at c1 c2;have HGV:=aA0 (fun w' (k:Bel w w')=>hgv.keep k);have HCV:=aA0 (fun w' (k:Bel w w')=>hcv.keep k);have HT:=aA0 (fun w' (k:Bel w w')=>aB2.keep hT k);obtain ⟨A2,k2,A3,k3,rfl,_,_,_,_,_,_⟩:=hgv;obtain ⟨A4,k4,rfl,_,_,_⟩:=hcv;have HAR:=aA0 har;have HARG:=aA0 harg;have HPO:=aA0 hpo;have HI1:=aA0 iha;have HI2:=aA0 ihd;have HA1:=aA0 ha;have HA2:=aA0 hd1;have HI3:=aA0 ihf;have HA3:=aA0 hf1;have HOP2:=aA0 hopn2;have HK3:=aA0 (show (k:Int)+1+(a.len:Int)+(d.len:Int)=((k+1+a.len+d.len:Nat):Int) by omega)
  have HOP:=aA0 hopn;have HB:=Bel.refl (w.alloc (.cells #[.slice A2 g.ids.length k2,.slice A3 g.ports.length k3] 29));have hcell:=aA0 (fun w' (kk:Bel (w.alloc (.cells #[.slice A2 g.ids.length k2,.slice A3 g.ports.length k3] 29)) w')=>And.intro (aA9 kk 0 (v := .slice A2 g.ids.length k2) rfl) (And.intro (aA9 kk 1 (v := .slice A3 g.ports.length k3) rfl) (aAy kk)));have hw1:IntKind.i64.wrap ((k:Int)+1)=(k:Int)+1:=IntWalk.i64_in _ (by omega)
  have HK1:=aA0 (show (k:Int)+1=((k+1:Nat):Int) by omega)
  have HK2:=aA0 (show (k:Int)+1+(a.len:Int)=((k+1+a.len:Nat):Int) by omega)
  have HBO1:Hid (aB5 b a):=hbo.1;have HBO2:Hid (aB5 b d):=hbo.2.1;have HBO3:Hid (aB5 b f):=hbo.2.2;have HE:Hid (aAt g c v port (.tri t a d f)=if aAt g c v port a≠0 then aAt g c v port d else aAt g c v port f):=rfl
  clear hh hhe harg hT har hat hbo hpo iha ihd ihf ha hd1 hf1 hopn hopn2;go_enter func118,ntmps118
  go_wp2_with (go_at_call 132;refine (aAs _ _).mono ?_;rintro e w' ⟨rfl,rfl⟩;rw [HAR.out])
  refine (HI1.out b port _ _ _ _ es (k+1) _ (HGV.out _ (aA3 HB)) (HCV.out _ (aA3 HB)) (HT.out _ (aA3 HB)) HA1.out HARG.out hlen HBO1.out HPO.out).mono ?_
  rintro e w4 ⟨rfl,hbb⟩;replace HB:=HB.trans hbb;clear hbb;obtain ⟨q0,q1,q2⟩:=hcell.out _ HB
  by_cases hz:aAt g c v port a=0
  .have hzb:(aAt g c v port a != 0)=false:=by simpa using hz
   rw [if_neg (by simpa using hz)] at HE
   have HZ:=aA0 hz;clear hz
   go_wp2_with fail
   replace HB:=HB.drew
   go_region_held3 (fun w'=>w'.cell? ⟨w.heap.size,0,none⟩=some (.slice A2 g.ids.length k2)/\w'.cell? ⟨w.heap.size,1,none⟩=some (.slice A3 g.ports.length k3)/\w.heap.size<w'.heap.size) (exact hcell.out _ HB)
    (first
     | (go_simp;go_at_call 138;refine (aBk _ _ _ es _ _ _ (HT.out _ (aA3 HB)) (by omega)).mono ?_;rintro e w' ⟨rfl,rfl⟩;rw [HOP2.out])
     | (go_simp;go_at_call 118;refine (HI3.out b port _ _ _ _ es (k+1+a.len+d.len) _ (HGV.out _ (aA3 HB)) (HCV.out _ (aA3 HB)) (HT.out _ (aA3 HB)) HA3.out HARG.out hlen HBO3.out HPO.out).mono ?_;rintro e w5 ⟨rfl,hbb⟩;replace HB:=HB.trans hbb;clear hbb))
   all_goals
    go_wp2_with fail
    go_ret;exact ⟨aA5 HE.out.symm,aA3 HB⟩
  .have hzb:(aAt g c v port a != 0)=true:=by simpa using hz
   rw [if_pos hz] at HE;have HZ:=aA0 hz;clear hz
   go_wp2_with fail
   replace HB:=HB.drew
   go_region_held3 (fun w'=>w'.cell? ⟨w.heap.size,0,none⟩=some (.slice A2 g.ids.length k2)/\w'.cell? ⟨w.heap.size,1,none⟩=some (.slice A3 g.ports.length k3)/\w.heap.size<w'.heap.size) (exact hcell.out _ HB)
    (first
     | (go_simp;go_at_call 138;refine (aBk _ _ _ es _ _ _ (HT.out _ (aA3 HB)) (by omega)).mono ?_;rintro e w' ⟨rfl,rfl⟩;rw [HOP.out])
     | (go_simp;go_at_call 118;refine (HI2.out b port _ _ _ _ es (k+1+a.len) _ (HGV.out _ (aA3 HB)) (HCV.out _ (aA3 HB)) (HT.out _ (aA3 HB)) HA2.out HARG.out hlen HBO2.out HPO.out).mono ?_;rintro e w5 ⟨rfl,hbb⟩;replace HB:=HB.trans hbb;clear hbb))
   all_goals
    go_wp2_with fail
    go_ret;exact ⟨aA5 HE.out.symm,aA3 HB⟩
theorem aB8 {p:Prg} {g:Graph} {c:aA6} (h:aD1 p g c=0):aHs p g=0/\aH5 (aAz p g) c=true:=by
 unfold aD1 at h;split at h
 .rename_i h1;exact absurd h h1
 .rename_i h1
  split at h
  .cases h
  .rename_i h2;exact ⟨by simpa using h1,by simpa using h2⟩
theorem aNs {p:Prg} {g:Graph} {c:aA6} (h:aD1 p g c=0) {v:Nat} (hv:v<c.length):SOK p g c v:=by
 obtain ⟨h1,h2⟩:=aB8 h;refine ⟨h1,h2,?_⟩
 have:=(aCd.1 h2).1;rw [aCj,(aAp h1).2.1.ids] at this;omega
theorem aGd {g:Graph} {v:Nat} {port:Int}:aGc g v false port:=fun h=>by cases h
theorem aW3 {p:Prg} (hc:aBr p=0) {r:Rule} (hr:r∈p.rules):(aAv r.guard).ok/\(aAv r.guard).terms=r.guard/\(∀ t∈r.guard,aG5 t p.vars.length=true)/\aB5 false (aAv r.guard):=by
 obtain ⟨_,_,_,_,_,h1,h2⟩:=aBl hc;obtain ⟨t1,t2,_,t4,_,_⟩:=aF7 (h1 r hr).guard;refine ⟨t1,t2,t4,aP9 (kinds:=aBo p) ?_⟩
 have:=h2 r hr;unfold aC5 at this;simp at this
 rw [this.1];omega
end Go.Proofs.YtdcjnhoabbdanaaGreatDoor


namespace Go.Proofs.YtdcjnhoabbdanaaGreatDoor
open Go.RowKit
def aCu (g:Graph) (v:Nat):List Int:=(g.ports.getD v []).map fun l=>aDu (g.ports.getD l.to.toNat []) v
def aK3 (g:Graph):List (List Int):=(List.range g.ports.length).map (aCu g)
def aJi (p:Prg) (g:Graph) (A1:Option Addr) (k1:Nat) (A2:Option Addr) (k2:Nat) (A3:Option Addr) (k3:Nat) (A4:Option Addr) (k4:Nat) (m:Int) (gb:Nat):Array Value :=
 #[.string p.name,.slice A1 p.vars.length k1,.slice A2 p.rules.length k2,.slice A3 g.ids.length k3,.slice A4 g.ports.length k4,.int .i64 m,.slice (some ⟨gb,0,none⟩) g.ports.length g.ports.length]
def aHv (w:World) (B:Nat) (p:Prg) (g:Graph):Prop :=
 ∃ A1 k1 A2 k2 A3 k3 A4 k4 gb,Blk w B (aJi p g A1 k1 A2 k2 A3 k3 A4 k4 (aDp g.ids) gb) 151 /\
  aEi w (.agg #[.string p.name,.slice A1 p.vars.length k1,.slice A2 p.rules.length k2]) p/\aAn w (.agg #[.slice A3 g.ids.length k3,.slice A4 g.ports.length k4]) g/\aPy w (some ⟨gb,0,none⟩) g.ports.length (aK3 g)
theorem aHv.keep {w w':World} {B:Nat} {p:Prg} {g:Graph} (h:aHv w B p g) (k:Bel w w'):aHv w' B p g:=by
 obtain ⟨A1,k1,A2,k2,A3,k3,A4,k4,gb,h1,h2,h3,h4⟩:=h;exact ⟨A1,k1,A2,k2,A3,k3,A4,k4,gb,h1.keep k,h2.keep k,h3.keep k,h4.keep k⟩
def aK1 (N:Nat) (w:World) (B:Nat) (p:Prg) (g:Graph) (v1 v2:Value):Prop :=
 ∀ W:World,w.heap.size<=W.heap.size->(∀ k,N<=k->k<w.heap.size->W.heap[k]?=w.heap[k]?)->aEi W v1 p->aAn W v2 g->aHv W B p g
def Gr (row:Option Nat) (a b:World):Prop:=a.heap.size<=b.heap.size/\∀ k,k<a.heap.size->some k≠row->b.heap[k]?=a.heap[k]?
theorem Gr.of_bel {row:Option Nat} {a b:World} (h:Bel a b):Gr row a b:=⟨h.size,fun k hk _=>h.block k hk⟩
theorem Gr.trans {row:Option Nat} {a b c:World} (h:Gr row a b) (k:Gr row b c):Gr row a c:=⟨Nat.le_trans h.1 k.1,fun i hi hr=>(k.2 i (Nat.lt_of_lt_of_le hi h.1) hr).trans (h.2 i hi hr)⟩
theorem Gr.grown {row:Option Nat} {a b:World} (h:a.grownBy b row):Gr row a b:=⟨h.size,fun k hk hr=>h.block k hk hr⟩
theorem Gr.cell {row:Option Nat} {a b:World} (h:Gr row a b) {k o:Nat} (hk:k<a.heap.size) (hr:some k≠row):b.cell? ⟨k,o,none⟩=a.cell? ⟨k,o,none⟩:=by
 unfold World.cell?;rw [h.2 k hk hr]
theorem Gr.frozen {row:Option Nat} {a b:World} (h:Gr row a b) {k o:Nat} (hk:k<a.heap.size) (hr:some k≠row):b.frozen? ⟨k,o,none⟩=a.frozen? ⟨k,o,none⟩:=by
 unfold World.frozen?;rw [h.2 k hk hr]
theorem bB3 {w w':World} {base:Nat} {e:TypeId} {size gb n c:Nat} {row:Option Nat} {xs:List Value} (h:w.ownsRow base e size (.slice (some ⟨gb,0,none⟩) n c) n xs) (hf:Gr row w w') (hne:some gb≠row):w'.ownsRow base e size (.slice (some ⟨gb,0,none⟩) n c) n xs:=by
 refine ⟨h.1,?_⟩
 rcases h.2 with ⟨hv,_⟩ | ⟨g',cap,cur,hv,hb,hg,hr⟩
 .cases hv
 .right
  refine ⟨g',cap,cur,hv,hb,?_,hr⟩
  injection hv with hA;injection hA with hA;injection hA with hA;subst hA
  rw [hf.2 gb (lt_of_block hg) hne];exact hg
theorem Fr.gr {f:Nat} {row:Option Nat} {a b c:World} (h:Fr f a b) (k:Gr row b c) (hr:∀ k,row=some k->a.heap.size<=k):Fr f a c :=
 ⟨Nat.le_trans h.1 k.1,fun i hi hne=>(k.2 i (Nat.lt_of_lt_of_le hi h.1) (fun e=>by have:=hr i e.symm;omega)).trans (h.2 i hi hne)⟩
theorem Blk.gr {row:Option Nat} {w w':World} {B:Nat} {cs:Array Value} {t:TypeId} (h:Blk w B cs t) (k:Gr row w w') (hr:some B≠row):Blk w' B cs t:=by
 unfold Blk at *;rw [k.2 B (lt_of_block h) hr];exact h
def aMb (w:World) (gb S v:Nat) (hs:List Value) (g:Graph):Prop :=
 ∀ u,u<v->∃ R c,hs[u]?=some (.slice R (aCu g u).length c)/\(aCu g u).length<=c/\c<=maxLen/\∀ x i,(aCu g u)[i]?=some x->∃ q,R=some ⟨q,0,none⟩/\gb<q/\q≠S/\q<w.heap.size/\w.cell? ⟨q,i,none⟩=some (.int .i64 x)
theorem aMb.kept {w w':World} {gb S v f:Nat} {hs:List Value} {g:Graph} (h:aMb w gb S v hs g) (hf:Fr f w w') (hne:f=gb∨f=S):aMb w' gb S v hs g:=fun u hu=>by
 obtain ⟨R,c,h1,h2,h3,h4⟩:=h u hu;refine ⟨R,c,h1,h2,h3,fun x i hx=>?_⟩
 obtain ⟨q,e,q1,q2,q3,q4⟩:=h4 x i hx;exact ⟨q,e,q1,q2,Nat.lt_of_lt_of_le q3 hf.1,(hf.cell q3 (by omega)).trans q4⟩
theorem aYn:(prog.info? 26).map (fun i=>(i.zero,i.size,i.bytes))=some (some (.slice none 0 0),1,24):=by kernel_rfl
theorem aQn (v1:Value) (p:Prg) (v2:Value) (g:Graph) (w:World) (h:aEi w v1 p) (h2:aAn w v2 g) (hg:GOK g) :
  Calls prog 84 #[v1,v2] w fun e w'=>∃ B,e = .returned (.pointer (some ⟨B,0,none⟩))/\aHv w' B p g/\aK1 w.heap.size w' B p g v1 v2/\w.heap.size<=B/\Bel w w':=by
 have HPV:=aA0 (fun w' (k:Bel w w')=>h.keep k);have HGV:=aA0 (fun w' (k:Bel w w')=>h2.keep k);obtain ⟨A1,k1,A2,k2,rfl,_,_,_,_,_,_⟩:=h;obtain ⟨A3,k3,A4,k4,rfl,hI,_,_,hP,_,_⟩:=h2;have HI:=aA0 (fun w' (k:Bel w w')=>aBm.keep hI k);have HP:=aA0 (fun w' (k:Bel w w')=>aFa.keep hP k);clear hI hP;have hn:g.ports.length<=24:=hg.le;have HIL:=aA0 hg.ids;have HGO:=aA0 hg;obtain ⟨i0,hi0,hz0,hz1,hz2⟩:=info_parts aYn;obtain ⟨j0,hj0,hy0,hy1,hy2⟩:=info_parts aH8;clear hg;have HW:=Bel.refl ((w.alloc (.cells #[.string p.name,.slice A1 p.vars.length k1,.slice A2 p.rules.length k2] 25)).alloc (.cells #[.slice A3 g.ids.length k3,.slice A4 g.ports.length k4] 29));obtain ⟨w1,hmk,hown,hgrw⟩:=run_make_full (P:=prog) ((w.alloc (.cells #[.string p.name,.slice A1 p.vars.length k1,.slice A2 p.rules.length k2] 25)).alloc (.cells #[.slice A3 g.ids.length k3,.slice A4 g.ports.length k4] 29)).drew (w.heap.size+1+1) 30 26 i0 (.slice none 0 0) 1 underlying30 hi0 hz0 hz1 .i64 .i64 g.ports.length (by rw [hz2];omega) (by unfold maxLen;omega) (by simp)
 have ewz:(((w.alloc (.cells #[.string p.name,.slice A1 p.vars.length k1,.slice A2 p.rules.length k2] 25)).alloc (.cells #[.slice A3 g.ids.length k3,.slice A4 g.ports.length k4] 29)).drew).heap.size=w.heap.size+1+1:=by simp
 rw [aKd _ rfl,ewz] at hown;rw [ewz] at hmk;have HO:=aA0 hown;have HB1:=aA0 (HW.drew.grown hgrw (fun k hk=>by cases hk))
 have hs1:w.heap.size+1+1<w1.heap.size:=(aBg hown).2;clear hown hgrw;have hcell:=aA0 (fun w' (kk:Bel ((w.alloc (.cells #[.string p.name,.slice A1 p.vars.length k1,.slice A2 p.rules.length k2] 25)).alloc (.cells #[.slice A3 g.ids.length k3,.slice A4 g.ports.length k4] 29)) w')=>aAd kk);go_enter func84,ntmps84
 go_wp2_with fail
 go_region_held3 (fun w'=>w'.cell? ⟨w.heap.size,0,none⟩=some (.string p.name)/\w'.cell? ⟨w.heap.size,1,none⟩=some (.slice A1 p.vars.length k1)/\w'.cell? ⟨w.heap.size,2,none⟩=some (.slice A2 p.rules.length k2)/\w'.cell? ⟨w.heap.size+1,0,none⟩=some (.slice A3 g.ids.length k3)/\w'.cell? ⟨w.heap.size+1,1,none⟩=some (.slice A4 g.ports.length k4)/\w.heap.size+1<w'.heap.size)
  (first | exact hcell.out _ HW.drew | exact hcell.out _ HB1.out | exact hcell.out _ (HB1.out.alloc _))
  (fail)
 obtain ⟨p0,p1,p2,g0,g1,gsz⟩:=aAd (HB1.out.alloc (.cells (aJi p g A1 k1 A2 k2 A3 k3 A4 k4 0 (w.heap.size+1+1)) 151));simp only [aJi] at p0 p1 p2 g0 g1 gsz
 go_wp2_with fail
 have HOa:=aA0 (HO.out.alloc (.cells (aJi p g A1 k1 A2 k2 A3 k3 A4 k4 0 (w.heap.size+1+1)) 151));have HBk:=aA0 (Blk.new w1 (aJi p g A1 k1 A2 k2 A3 k3 A4 k4 0 (w.heap.size+1+1)) 151);have HWa:=HB1.out.alloc (.cells (aJi p g A1 k1 A2 k2 A3 k3 A4 k4 0 (w.heap.size+1+1)) 151);clear HO HB1 HW hmk p0 p1 p2 g0 g1 gsz
 go_loopg [6,7,9,21] g.ports.length (fun m _x _y _u z wr=>∃ (v:Nat) (hs:List Value),v<=g.ports.length/\m=g.ports.length-v/\z = .int .i64 v/\Hid (wr.ownsRow (w.heap.size+1+1) 26 1 (.slice (some ⟨w.heap.size+1+1,0,none⟩) g.ports.length g.ports.length) g.ports.length hs)/\Hid (aMb wr (w.heap.size+1+1) w1.heap.size v hs g)/\Hid (∀ u,v<=u->u<g.ports.length->hs[u]?=some (.slice none 0 0))/\Hid (Blk wr w1.heap.size (aJi p g A1 k1 A2 k2 A3 k3 A4 k4 (aDp (g.ids.take v)) (w.heap.size+1+1)) 151)/\Bel ((w.alloc (.cells #[.string p.name,.slice A1 p.vars.length k1,.slice A2 p.rules.length k2] 25)).alloc (.cells #[.slice A3 g.ids.length k3,.slice A4 g.ports.length k4] 29)) wr)
 case atStart =>
  refine ⟨0,_,by omega,rfl,rfl,HOa,fun u hu=>absurd hu (by omega),fun u _ hu=>?_,HBk,HWa⟩
  rw [List.getElem?_replicate,if_pos hu]
 case round =>
  clear HOa HBk HWa;obtain ⟨wo,rfl⟩:∃ wo:World,wo=wr:=⟨_,rfl⟩;obtain ⟨v,hs,hv,rfl,rfl,HO,HD,HN,HBk,HW⟩:=hrel
  by_cases hlt:v<g.ports.length
  .have hd0:decide (v<g.ports.length)=true:=by simpa using hlt
   obtain ⟨p0,p1,p2,g0,g1,gsz⟩:=aAd HW;obtain ⟨b,o,R,rc,rfl,hb,hc,hL,hn1,hm1⟩:=(HP.out _ (Bel.refl w)).at_ v hlt;rw [<- (aA1 HW).cell hb] at hc;replace hb:=Nat.lt_of_lt_of_le hb (aA1 HW).size;obtain ⟨bi,oi,rfl,hbi,hci⟩:=(HI.out _ (aA1 HW)).at_ v (by rw [HIL.out];exact hlt)
   have HL:=aA0 (fun w' (k:Bel w w')=>aGo.keep hL k);clear hL;have hvi:v<g.ids.length:=by rw [HIL.out];exact hlt
   go_wp2_with fail
   have z5:=HBk.out.cell 5 (v := .int .i64 (aDp (g.ids.take v))) rfl;have zf:=HBk.out.frozen 5;have zl:=HBk.out.lt;refine aA7.start (fun w'=>w'=wo.drew) 13 (by kernel_rfl) ?_
   have hHeld:wo.drew=wo.drew:=rfl;refine aA7.take (i:=0) (v:=?_) [13] (some 26) rfl rfl (by kernel_rfl) (by kernel_rfl) (by kernel_rfl) (by kernel_rfl) (by kernel_rfl) (by kernel_rfl) (fun _ _ _ h=>h) hHeld (Or.inl ⟨by rfl,?_⟩) ?_
   rotate_left 1;· (intro w' hSw;obtain rfl:w'=_:=hSw;go_simp;try with_reducible rfl)
   (try simp only [Act.put,List.setIfInBounds_toArray,List.set_cons_zero,List.set_cons_succ])
   refine aA7.take (i:=1) (v:=?_) [13] (some 27) rfl rfl (by kernel_rfl) (by kernel_rfl) (by kernel_rfl) (by kernel_rfl) (by kernel_rfl) (by kernel_rfl) (fun _ _ _ h=>h) hHeld (Or.inl ⟨by rfl,?_⟩) ?_
   rotate_left 1;· (intro w' hSw;obtain rfl:w'=_:=hSw;go_simp;try with_reducible rfl)
   (try simp only [Act.put,List.setIfInBounds_toArray,List.set_cons_zero,List.set_cons_succ])
   refine aA7.take (i:=2) (v:=?_) [13] (some 28) rfl rfl (by kernel_rfl) (by kernel_rfl) (by kernel_rfl) (by kernel_rfl) (by kernel_rfl) (by kernel_rfl) (fun _ _ _ h=>h) hHeld (Or.inl ⟨by rfl,?_⟩) ?_
   rotate_left 1;· (intro w' hSw;obtain rfl:w'=_:=hSw;go_simp;try with_reducible rfl)
   (try simp only [Act.put,List.setIfInBounds_toArray,List.set_cons_zero,List.set_cons_succ])
   refine aA7.take (i:=3) (v:=?_) [13] (some 29) rfl rfl (by kernel_rfl) (by kernel_rfl) (by kernel_rfl) (by kernel_rfl) (by kernel_rfl) (by kernel_rfl) (fun _ _ _ h=>h) hHeld (Or.inl ⟨by rfl,?_⟩) ?_
   rotate_left 1;· (intro w' hSw;obtain rfl:w'=_:=hSw;go_simp;try with_reducible rfl)
   (try simp only [Act.put,List.setIfInBounds_toArray,List.set_cons_zero,List.set_cons_succ])
   refine aA7.take (i:=4) (v:=?_) [13] (some 30) rfl rfl (by kernel_rfl) (by kernel_rfl) (by kernel_rfl) (by kernel_rfl) (by kernel_rfl) (by kernel_rfl) (fun _ _ _ h=>h) hHeld (Or.inl ⟨by rfl,?_⟩) ?_
   rotate_left 1;· (intro w' hSw;obtain rfl:w'=_:=hSw;go_simp;try with_reducible rfl)
   (try simp only [Act.put,List.setIfInBounds_toArray,List.set_cons_zero,List.set_cons_succ])
   refine aA7.take (i:=5) (v:=?_) [13] (some 31) rfl rfl (by kernel_rfl) (by kernel_rfl) (by kernel_rfl) (by kernel_rfl) (by kernel_rfl) (by kernel_rfl) (fun _ _ _ h=>h) hHeld (Or.inl ⟨by rfl,?_⟩) ?_
   rotate_left 1;· (intro w' hSw;obtain rfl:w'=_:=hSw;go_simp;try with_reducible rfl)
   (try simp only [Act.put,List.setIfInBounds_toArray,List.set_cons_zero,List.set_cons_succ])
   refine aA7.take (i:=6) (v:=?_) [13] (some 32) rfl rfl (by kernel_rfl) (by kernel_rfl) (by kernel_rfl) (by kernel_rfl) (by kernel_rfl) (by kernel_rfl) (fun _ _ _ h=>h) hHeld (Or.inl ⟨by rfl,?_⟩) ?_
   rotate_left 1;· (intro w' hSw;obtain rfl:w'=_:=hSw;go_simp;try with_reducible rfl)
   (try simp only [Act.put,List.setIfInBounds_toArray,List.set_cons_zero,List.set_cons_succ])
   refine aA7.take (i:=7) (v:=?_) [13] (some 33) rfl rfl (by kernel_rfl) (by kernel_rfl) (by kernel_rfl) (by kernel_rfl) (by kernel_rfl) (by kernel_rfl) (fun _ _ _ h=>h) hHeld (Or.inl ⟨by rfl,?_⟩) ?_
   rotate_left 1;· (intro w' hSw;obtain rfl:w'=_:=hSw;go_simp;try with_reducible rfl)
   (try simp only [Act.put,List.setIfInBounds_toArray,List.set_cons_zero,List.set_cons_succ])
   refine aA7.take (i:=8) (v:=?_) [13] (some 34) rfl rfl (by kernel_rfl) (by kernel_rfl) (by kernel_rfl) (by kernel_rfl) (by kernel_rfl) (by kernel_rfl) (fun _ _ _ h=>h) hHeld (Or.inl ⟨by rfl,?_⟩) ?_
   rotate_left 1;· (intro w' hSw;obtain rfl:w'=_:=hSw;go_simp;try with_reducible rfl)
   (try simp only [Act.put,List.setIfInBounds_toArray,List.set_cons_zero,List.set_cons_succ])
   refine aA7.take (i:=9) (v:=?_) [13] (some 35) rfl rfl (by kernel_rfl) (by kernel_rfl) (by kernel_rfl) (by kernel_rfl) (by kernel_rfl) (by kernel_rfl) (fun _ _ _ h=>h) hHeld (Or.inl ⟨by rfl,?_⟩) ?_
   rotate_left 1;· (intro w' hSw;obtain rfl:w'=_:=hSw;go_simp;try with_reducible rfl)
   (try simp only [Act.put,List.setIfInBounds_toArray,List.set_cons_zero,List.set_cons_succ])
   refine aA7.take (i:=10) (v:=?_) [13] (some 36) rfl rfl (by kernel_rfl) (by kernel_rfl) (by kernel_rfl) (by kernel_rfl) (by kernel_rfl) (by kernel_rfl) (fun _ _ _ h=>h) hHeld (Or.inl ⟨by rfl,?_⟩) ?_
   rotate_left 1;· (intro w' hSw;obtain rfl:w'=_:=hSw;go_simp;try with_reducible rfl)
   (try simp only [Act.put,List.setIfInBounds_toArray,List.set_cons_zero,List.set_cons_succ])
   refine aA7.take (i:=11) (v:=?_) [12,13] (some 37) rfl rfl (by kernel_rfl) (by kernel_rfl) (by kernel_rfl) (by kernel_rfl) (by kernel_rfl) (by kernel_rfl) (fun _ _ _ h=>h) hHeld (Or.inl ⟨by rfl,?_⟩) ?_
   rotate_left 1;· (intro w' hSw;obtain rfl:w'=_:=hSw;go_simp;try with_reducible rfl)
   (try simp only [Act.put,List.setIfInBounds_toArray,List.set_cons_zero,List.set_cons_succ])
   refine aA7.take (i:=12) (v:=?_) [13] (some 38) rfl rfl (by kernel_rfl) (by kernel_rfl) (by kernel_rfl) (by kernel_rfl) (by kernel_rfl) (by kernel_rfl) (fun _ _ _ h=>h) hHeld (Or.inl ⟨by rfl,?_⟩) ?_
   rotate_left 1;· (intro w' hSw;obtain rfl:w'=_:=hSw;go_simp;try with_reducible rfl)
   (try simp only [Act.put,List.setIfInBounds_toArray,List.set_cons_zero,List.set_cons_succ])
   refine aA7.one (i:=13) (by kernel_rfl) rfl (fun K hK=>?_)
   go_simp
   refine hK.out _ _ (fun h=>absurd rfl h) ?_
   clear hK K;refine aA7.done (by kernel_rfl) ?_ _
   have emx:(if aDp (g.ids.take v)<g.ids[v] then g.ids[v] else aDp (g.ids.take v))=aDp (g.ids.take (v+1)):=by
    rw [List.take_succ_eq_append_getElem hvi,aRo];split <;> omega
   have HBkx:=aA0 ((HBk.out.set 5 (.int .i64 (aDp (g.ids.take (v+1))))).drew);have hne1:w.heap.size+1+1≠w1.heap.size:=by omega
   have HF1:=((Fr.refl w1.heap.size wo).set 5 (.int .i64 (aDp (g.ids.take (v+1))))).drew;have HOx:=aA0 (aV4 HO.out HF1 hne1);have HDx:=aA0 (HD.out.kept HF1 (Or.inr rfl));have hw1s:w.heap.size+1+1<=w1.heap.size:=by omega
   have HWx:=(HW.setCell (p:=⟨w1.heap.size,5,none⟩) (by simpa using hw1s) (.int .i64 (aDp (g.ids.take (v+1))))).drew
   rw [emx];clear HO HD HBk HF1 HW z5 zf emx hHeld p0 p1 p2 g0 g1 gsz hc hci hb hbi;have hszo:w1.heap.size<(wo.setCell ⟨w1.heap.size,5,none⟩ (.int .i64 (aDp (g.ids.take (v+1))))).drew.heap.size:=by simpa using zl
   generalize (wo.setCell ⟨w1.heap.size,5,none⟩ (.int .i64 (aDp (g.ids.take (v+1))))).drew=wq at *;clear zl;have hsl:hs.length=g.ports.length:=by have:=HOx.out.1;omega
   have hset:hs=hs.set v (.slice none 0 0):=by
    apply List.ext_getElem?
    intro u
    by_cases hu:v=u
    .subst hu;rw [HN.out v (Nat.le_refl _) hlt,List.getElem?_set_self (by omega)]
    .rw [List.getElem?_set_ne hu]
   go_wp2_with fail
   have HBky:Hid (Blk wq w1.heap.size (aJi p g A1 k1 A2 k2 (some ⟨bi,oi,none⟩) k3 (some ⟨b,o,none⟩) k4 (aDp (g.ids.take (v+1))) (w.heap.size+1+1)) 151):=HBkx;clear HBkx;have hbl:(aCu g v).length=g.ports[v].length:=by unfold aCu;rw [aA8 hlt,List.length_map]
   have hwq:w.heap.size+1+1<wq.heap.size:=by omega
   have hpl:g.ports[v].length<=24:=by have:=aCl hlt (HGO.out.links v hlt);omega
   go_loopg [9,41] g.ports[v].length (fun m _x z ws=>∃ (j:Nat) (A:Option Addr) (c:Nat),j<=g.ports[v].length/\m=g.ports[v].length-j/\z = .int .i64 j/\Hid (ws.ownsRow wq.heap.size 3 1 (.slice A j c) j (((aCu g v).take j).map (Value.int .i64)))/\Hid (ws.ownsRow (w.heap.size+1+1) 26 1 (.slice (some ⟨w.heap.size+1+1,0,none⟩) g.ports.length g.ports.length) g.ports.length (hs.set v (.slice A j c)))/\Fr (w.heap.size+1+1) wq ws/\Hid (Blk ws w1.heap.size (aJi p g A1 k1 A2 k2 (some ⟨bi,oi,none⟩) k3 (some ⟨b,o,none⟩) k4 (aDp (g.ids.take (v+1))) (w.heap.size+1+1)) 151)/\Bel ((w.alloc (.cells #[.string p.name,.slice A1 p.vars.length k1,.slice A2 p.rules.length k2] 25)).alloc (.cells #[.slice (some ⟨bi,oi,none⟩) g.ids.length k3,.slice (some ⟨b,o,none⟩) g.ports.length k4] 29)) ws)
   case atStart =>
    refine ⟨0,none,0,by omega,rfl,rfl,World.ownsRow_nil _ _ _ _,?_,Fr.refl _ _,HBky,HWx⟩
    show World.ownsRow _ _ _ _ _ _ _
    rw [<- hset];exact HOx.out
   case round =>
    obtain ⟨j,A,c,hj,rfl,rfl,HR,HO2,HF,HB,HW⟩:=hrel
    by_cases hlt2:j<g.ports[v].length
    .have hd1:decide (j<g.ports[v].length)=true:=by simpa using hlt2
     obtain ⟨_,t,ht,htl,_,_,_⟩:=aJr HGO.out hlt hlt2;obtain ⟨bl,ol,rfl,hbl2,c0,c1⟩:=(HL.out _ (aA1 HW)).at_ j hlt2;rw [ht] at c0
     have hbj:(aCu g v)[j]?=some (aDu g.ports[t] v):=by
      unfold aCu;rw [aA8 hlt,List.getElem?_map,List.getElem?_eq_getElem hlt2];simp only [Option.map_some]
      rw [ht,Int.toNat_natCast,aA8 htl]
     have HBJ:=aA0 hbj;have hsz:=HF.1;obtain ⟨p0,p1,p2,g0,g1,gsz⟩:=aAd HW;have hrow:∀ k,(Value.slice A j c).ownBlock=some k->wq.heap.size<=k:=fun k hk=>(HR.out.lt k hk).1;have hrk:∀ k,k<wq.heap.size->some k≠(Value.slice A j c).ownBlock:=fun k hk e=>by have:=hrow k e.symm;omega
     have hrk2:some wr.heap.size≠(Value.slice A j c).ownBlock:=fun e=>by have:=(HR.out.lt _ e.symm).2;omega
     have hHRK:=aA0 hrow;have hk1:=hrk _ hwq;have hk2:=hrk (w.heap.size+1) (by omega)
     have hk3:=hrk _ hszo
     have hcell9:=aA0 (fun w' (kk:Gr (Value.slice A j c).ownBlock (wr.alloc (.cells #[.int .i64 (t:Int),.int .i64 g.ports[v][j].weight] 102)) w')=>by
      have hB:=(Bel.refl wr).alloc (.cells #[.int .i64 (t:Int),.int .i64 g.ports[v][j].weight] 102);have hbx:=Blk.new wr #[.int .i64 (t:Int),.int .i64 g.ports[v][j].weight] 102;have h6:=HB.out.cell 6 (v := .slice (some ⟨w.heap.size+1+1,0,none⟩) g.ports.length g.ports.length) rfl
      have hv1:wr.cell? ⟨w.heap.size+1+1,v,none⟩=some (.slice A j c):=by
       have:=aGu HO2.out v (by simp;omega)
       simpa using this
      have hs1:=kk.1;simp only [World.size_alloc] at hs1
      exact show w'.cell? ⟨w1.heap.size,6,none⟩=some (.slice (some ⟨w.heap.size+1+1,0,none⟩) g.ports.length g.ports.length)/\w'.cell? ⟨w.heap.size+1+1,v,none⟩=some (.slice A j c)/\w'.cell? ⟨w.heap.size+1,0,none⟩=some (.slice (some ⟨bi,oi,none⟩) g.ids.length k3)/\w'.cell? ⟨w.heap.size+1,1,none⟩=some (.slice (some ⟨b,o,none⟩) g.ports.length k4)/\w'.cell? ⟨wr.heap.size,0,none⟩=some (.int .i64 (t:Int))/\w'.frozen? ⟨w.heap.size+1+1,v,none⟩=false from
       ⟨(kk.cell (by simp;omega) hk3).trans ((hB.cell (by omega)).trans h6),(kk.cell (by simp;omega) hk1).trans ((hB.cell (by omega)).trans hv1),(kk.cell (by simp;omega) hk2).trans ((hB.cell (by omega)).trans g0),(kk.cell (by simp;omega) hk2).trans ((hB.cell (by omega)).trans g1),(kk.cell (by simp) hrk2).trans (hbx.cell 0 rfl),(kk.frozen (by simp;omega) hk1).trans ((HO2.out.alloc (.cells #[.int .i64 (t:Int),.int .i64 g.ports[v][j].weight] 102)).frozenAt v)⟩)
     have HWb:=HW.alloc (.cells #[.int .i64 (t:Int),.int .i64 g.ports[v][j].weight] 102);have HRb:=aA0 (HR.out.alloc (.cells #[.int .i64 (t:Int),.int .i64 g.ports[v][j].weight] 102)).drew;clear hrow hrk hrk2 hk1 hk2 hk3 hbj ht
     go_wp2_with fail
     clear c0 c1 p0 p1 p2 g0 g1 gsz;refine aA7.start (fun w'=>w'.cell? ⟨w1.heap.size,6,none⟩=some (.slice (some ⟨w.heap.size+1+1,0,none⟩) g.ports.length g.ports.length)/\w'.cell? ⟨w.heap.size+1+1,v,none⟩=some (.slice A j c)/\w'.cell? ⟨w.heap.size+1,0,none⟩=some (.slice (some ⟨bi,oi,none⟩) g.ids.length k3)/\w'.cell? ⟨w.heap.size+1,1,none⟩=some (.slice (some ⟨b,o,none⟩) g.ports.length k4)/\w'.cell? ⟨wr.heap.size,0,none⟩=some (.int .i64 (t:Int))/\w'.frozen? ⟨w.heap.size+1+1,v,none⟩=false) 20 (by kernel_rfl) ?_
     have HG:=(Gr.of_bel (row:=(Value.slice A j c).ownBlock) (Bel.refl (wr.alloc (.cells #[.int .i64 (t:Int),.int .i64 g.ports[v][j].weight] 102))).drew);have hHeld:=hcell9.out _ HG;refine aA7.take (i:=0) (v:=?_) [20] (some 45) rfl rfl (by kernel_rfl) (by kernel_rfl) (by kernel_rfl) (by kernel_rfl) (by kernel_rfl) (by kernel_rfl) (fun _ _ _ h=>h) hHeld (Or.inl ⟨by rfl,?_⟩) ?_
     rotate_left 1;· (intro w' hSw;(try dsimp only at hSw);go_simp;try with_reducible rfl)
     (try simp only [Act.put,List.setIfInBounds_toArray,List.set_cons_zero,List.set_cons_succ])
     refine aA7.take (i:=1) (v:=?_) [20] (some 46) rfl rfl (by kernel_rfl) (by kernel_rfl) (by kernel_rfl) (by kernel_rfl) (by kernel_rfl) (by kernel_rfl) (fun _ _ _ h=>h) hHeld (Or.inl ⟨by rfl,?_⟩) ?_
     rotate_left 1;· (intro w' hSw;(try dsimp only at hSw);go_simp;try with_reducible rfl)
     (try simp only [Act.put,List.setIfInBounds_toArray,List.set_cons_zero,List.set_cons_succ])
     refine aA7.take (i:=2) (v:=?_) [20] (some 47) rfl rfl (by kernel_rfl) (by kernel_rfl) (by kernel_rfl) (by kernel_rfl) (by kernel_rfl) (by kernel_rfl) (fun _ _ _ h=>h) hHeld (Or.inl ⟨by rfl,?_⟩) ?_
     rotate_left 1;· (intro w' hSw;(try dsimp only at hSw);go_simp;try with_reducible rfl)
     (try simp only [Act.put,List.setIfInBounds_toArray,List.set_cons_zero,List.set_cons_succ])
     refine aA7.take (i:=3) (v:=?_) [20] (some 48) rfl rfl (by kernel_rfl) (by kernel_rfl) (by kernel_rfl) (by kernel_rfl) (by kernel_rfl) (by kernel_rfl) (fun _ _ _ h=>h) hHeld (Or.inl ⟨by rfl,?_⟩) ?_
     rotate_left 1;· (intro w' hSw;(try dsimp only at hSw);go_simp;try with_reducible rfl)
     (try simp only [Act.put,List.setIfInBounds_toArray,List.set_cons_zero,List.set_cons_succ])
     refine aA7.take (i:=4) (v:=?_) [20] (some 49) rfl rfl (by kernel_rfl) (by kernel_rfl) (by kernel_rfl) (by kernel_rfl) (by kernel_rfl) (by kernel_rfl) (fun _ _ _ h=>h) hHeld (Or.inl ⟨by rfl,?_⟩) ?_
     rotate_left 1;· (intro w' hSw;(try dsimp only at hSw);go_simp;try with_reducible rfl)
     (try simp only [Act.put,List.setIfInBounds_toArray,List.set_cons_zero,List.set_cons_succ])
     refine aA7.take (i:=5) (v:=?_) [20] (some 50) rfl rfl (by kernel_rfl) (by kernel_rfl) (by kernel_rfl) (by kernel_rfl) (by kernel_rfl) (by kernel_rfl) (fun _ _ _ h=>h) hHeld (Or.inl ⟨by rfl,?_⟩) ?_
     rotate_left 1;· (intro w' hSw;(try dsimp only at hSw);go_simp;try with_reducible rfl)
     (try simp only [Act.put,List.setIfInBounds_toArray,List.set_cons_zero,List.set_cons_succ])
     refine aA7.take (i:=6) (v:=?_) [20] (some 51) rfl rfl (by kernel_rfl) (by kernel_rfl) (by kernel_rfl) (by kernel_rfl) (by kernel_rfl) (by kernel_rfl) (fun _ _ _ h=>h) hHeld (Or.inl ⟨by rfl,?_⟩) ?_
     rotate_left 1;· (intro w' hSw;(try dsimp only at hSw);go_simp;try with_reducible rfl)
     (try simp only [Act.put,List.setIfInBounds_toArray,List.set_cons_zero,List.set_cons_succ])
     refine aA7.take (i:=7) (v:=?_) [20] (some 52) rfl rfl (by kernel_rfl) (by kernel_rfl) (by kernel_rfl) (by kernel_rfl) (by kernel_rfl) (by kernel_rfl) (fun _ _ _ h=>h) hHeld (Or.inl ⟨by rfl,?_⟩) ?_
     rotate_left 1;· (intro w' hSw;(try dsimp only at hSw);go_simp;try with_reducible rfl)
     (try simp only [Act.put,List.setIfInBounds_toArray,List.set_cons_zero,List.set_cons_succ])
     refine aA7.take (i:=8) (v:=?_) [20] (some 53) rfl rfl (by kernel_rfl) (by kernel_rfl) (by kernel_rfl) (by kernel_rfl) (by kernel_rfl) (by kernel_rfl) (fun _ _ _ h=>h) hHeld (Or.inl ⟨by rfl,?_⟩) ?_
     rotate_left 1;· (intro w' hSw;(try dsimp only at hSw);go_simp;try with_reducible rfl)
     (try simp only [Act.put,List.setIfInBounds_toArray,List.set_cons_zero,List.set_cons_succ])
     refine aA7.take (i:=9) (v:=?_) [20] (some 54) rfl rfl (by kernel_rfl) (by kernel_rfl) (by kernel_rfl) (by kernel_rfl) (by kernel_rfl) (by kernel_rfl) (fun _ _ _ h=>h) hHeld (Or.inl ⟨by rfl,?_⟩) ?_
     rotate_left 1;· (intro w' hSw;(try dsimp only at hSw);go_simp;try with_reducible rfl)
     (try simp only [Act.put,List.setIfInBounds_toArray,List.set_cons_zero,List.set_cons_succ])
     refine aA7.take (i:=10) (v:=?_) [20] (some 55) rfl rfl (by kernel_rfl) (by kernel_rfl) (by kernel_rfl) (by kernel_rfl) (by kernel_rfl) (by kernel_rfl) (fun _ _ _ h=>h) hHeld (Or.inl ⟨by rfl,?_⟩) ?_
     rotate_left 1;· (intro w' hSw;(try dsimp only at hSw);go_simp;try with_reducible rfl)
     (try simp only [Act.put,List.setIfInBounds_toArray,List.set_cons_zero,List.set_cons_succ])
     refine aA7.take (i:=11) (v:=?_) [20] (some 56) rfl rfl (by kernel_rfl) (by kernel_rfl) (by kernel_rfl) (by kernel_rfl) (by kernel_rfl) (by kernel_rfl) (fun _ _ _ h=>h) hHeld (Or.inl ⟨by rfl,?_⟩) ?_
     rotate_left 1;· (intro w' hSw;(try dsimp only at hSw);go_simp;try with_reducible rfl)
     (try simp only [Act.put,List.setIfInBounds_toArray,List.set_cons_zero,List.set_cons_succ])
     refine aA7.take (i:=12) (v:=?_) [20] (some 57) rfl rfl (by kernel_rfl) (by kernel_rfl) (by kernel_rfl) (by kernel_rfl) (by kernel_rfl) (by kernel_rfl) (fun _ _ _ h=>h) hHeld (Or.inl ⟨by rfl,?_⟩) ?_
     rotate_left 1;· (intro w' hSw;(try dsimp only at hSw);go_simp;try with_reducible rfl)
     (try simp only [Act.put,List.setIfInBounds_toArray,List.set_cons_zero,List.set_cons_succ])
     refine aA7.take (i:=13) (v:=?_) [20] (some 58) rfl rfl (by kernel_rfl) (by kernel_rfl) (by kernel_rfl) (by kernel_rfl) (by kernel_rfl) (by kernel_rfl) (fun _ _ _ h=>h) hHeld (Or.inl ⟨by rfl,?_⟩) ?_
     rotate_left 1;· (intro w' hSw;(try dsimp only at hSw);go_simp;try with_reducible rfl)
     (try simp only [Act.put,List.setIfInBounds_toArray,List.set_cons_zero,List.set_cons_succ])
     refine aA7.take (i:=14) (v:=?_) [20] (some 59) rfl rfl (by kernel_rfl) (by kernel_rfl) (by kernel_rfl) (by kernel_rfl) (by kernel_rfl) (by kernel_rfl) (fun _ _ _ h=>h) hHeld (Or.inl ⟨by rfl,?_⟩) ?_
     rotate_left 1;· (intro w' hSw;(try dsimp only at hSw);go_simp;try with_reducible rfl)
     (try simp only [Act.put,List.setIfInBounds_toArray,List.set_cons_zero,List.set_cons_succ])
     refine aA7.take (i:=15) (v:=?_) [20] (some 60) rfl rfl (by kernel_rfl) (by kernel_rfl) (by kernel_rfl) (by kernel_rfl) (by kernel_rfl) (by kernel_rfl) (fun _ _ _ h=>h) hHeld (Or.inl ⟨by rfl,?_⟩) ?_
     rotate_left 1;· (intro w' hSw;(try dsimp only at hSw);go_simp;try with_reducible rfl)
     (try simp only [Act.put,List.setIfInBounds_toArray,List.set_cons_zero,List.set_cons_succ])
     refine aA7.one (i:=16) (by kernel_rfl) rfl (fun K hK=>?_)
     go_simp
     go_at_call 105
     refine (aWh _ g t v _ (HGV.out _ (aA1 HWb.drew)) htl).mono ?_
     rintro e w4 ⟨rfl,hb4⟩;replace HG:=HG.trans (Gr.of_bel hb4);replace HWb:=HWb.drew.trans hb4;replace HRb:=aA0 (hb4.owns HRb.out);have HS4:=hb4.size;clear hb4 hHeld
     (try go_simp)
     refine hK.out _ _ (fun _=>hcell9.out _ HG) ?_
     clear hK K
     (try simp only [Act.put,List.setIfInBounds_toArray,List.set_cons_zero,List.set_cons_succ])
     refine aA7.one (i:=17) (by kernel_rfl) rfl (fun K hK=>?_)
     go_simp
     replace HG:=HG.trans (Gr.of_bel ((Bel.refl w4).alloc (.cells #[.int .i64 (aDu g.ports[t] v)] 3)));replace HWb:=HWb.alloc (.cells #[.int .i64 (aDu g.ports[t] v)] 3);replace HRb:=aA0 (HRb.out.alloc (.cells #[.int .i64 (aDu g.ports[t] v)] 3));refine hK.out _ _ (fun _=>hcell9.out _ HG) ?_
     clear hK K
     (try simp only [Act.put,List.setIfInBounds_toArray,List.set_cons_zero,List.set_cons_succ])
     refine aA7.one (i:=18) (by kernel_rfl) rfl (fun K hK=>?_)
     refine aB9 _ rfl (.tmp 56) (.tmp 62) 26 rfl wq.heap.size 3 j0 (.int .i64 0) 1 8 underlying26 hj0 hy0 hy1 hy2 rfl (by decide) A j c (((aCu g v).take j).map (Value.int .i64)) (by simp [Act.eval]) HRb.out w4.heap.size #[.int .i64 (aDu g.ports[t] v)] 3 (0,0) (by simp [Act.eval]) (aFe _ _) rfl (aNz _ _) (by unfold maxLen;omega) (by omega) (by have:=HG.1;simp only [World.size_alloc] at this ⊢;omega) ?_
     intro A' c' w6 hown hgr hat
     replace HG:=HG.trans (Gr.grown hgr);replace HWb:=HWb.grown hgr (fun k hk=>by have:=hHRK.out k hk;simp;omega)
     have HR6:=aA0 hown;clear hown hgr hat HRb HS4;refine hK.out _ _ (fun _=>hcell9.out _ HG) ?_
     clear hK K;have hHeld:=hcell9.out _ HG
     (try simp only [Act.put,List.setIfInBounds_toArray,List.set_cons_zero,List.set_cons_succ])
     refine aA7.take (i:=19) (v:=?_) [20] (some 64) rfl rfl (by kernel_rfl) (by kernel_rfl) (by kernel_rfl) (by kernel_rfl) (by kernel_rfl) (by kernel_rfl) (fun _ _ _ h=>h) hHeld (Or.inl ⟨by rfl,?_⟩) ?_
     rotate_left 1;· (intro w' hSw;(try dsimp only at hSw);go_simp;try with_reducible rfl)
     (try simp only [Act.put,List.setIfInBounds_toArray,List.set_cons_zero,List.set_cons_succ])
     refine aA7.one (i:=20) (by kernel_rfl) rfl (fun K hK=>?_)
     go_simp
     refine hK.out _ _ (fun h=>absurd rfl h) ?_
     clear hK K hHeld;refine aA7.done (by kernel_rfl) ?_ _
     go_wp2_with fail
     go_roundg (g.ports[v].length-(j+1))
     case rel =>
      have hbd:=aBg (bB3 HO2.out ((Gr.of_bel ((Bel.refl wr).alloc (.cells #[.int .i64 (t:Int),.int .i64 g.ports[v][j].weight] 102))).trans HG) (fun e=>by have:=hHRK.out _ e.symm;omega))
      refine ⟨j+1,A',c',by omega,rfl,by go_num,?_,?_,?_,?_,?_⟩
      .have h1:=HR6.out
       obtain ⟨g',cap,hv',hb',hg'⟩:=h1.form (by omega)
       injection hv' with hA _ hc'
       subst hA;subst hc';have h2:=aV4 h1 ((Fr.refl (w.heap.size+1+1) w6).set v (.slice (some ⟨g',0,none⟩) (j+1) c')) (by omega)
       have e:(((aCu g v).take j).map (Value.int .i64))++[Value.int .i64 (aDu g.ports[t] v)]=((aCu g v).take (j+1)).map (Value.int .i64):=by
        rw [List.take_add_one,HBJ.out,List.map_append];rfl
       show World.ownsRow _ _ _ _ _ _ _
       rw [<- e];exact h2
      .have h1:=bB3 HO2.out ((Gr.of_bel ((Bel.refl wr).alloc (.cells #[.int .i64 (t:Int),.int .i64 g.ports[v][j].weight] 102))).trans HG) (fun e=>by have:=hHRK.out _ e.symm;omega)
       have h2:=(h1.stored v (.slice A' (j+1) c')).1;rw [List.set_set] at h2;exact h2
      .exact ((HF.alloc (.cells #[.int .i64 (t:Int),.int .i64 g.ports[v][j].weight] 102)).gr HG hHRK.out).trans ((Fr.refl _ w6).set v _)
      .exact ((HB.out.alloc (.cells #[.int .i64 (t:Int),.int .i64 g.ports[v][j].weight] 102)).gr HG (fun e=>by have:=hHRK.out _ e.symm;omega)).other (by simp;omega) _
      .exact HWb.setCell (by simp) _
     case measure=>omega
    .have hd1:decide (j<g.ports[v].length)=false:=by simpa using hlt2
     obtain rfl:j=g.ports[v].length:=by omega
     go_wp2_with fail
     go_roundg (g.ports.length-(v+1))
     case rel =>
      refine ⟨v+1,_,by omega,rfl,by go_num,HO2,?_,?_,HB,HW⟩
      .intro u hu
       rcases Nat.lt_or_ge u v with h | h
       .obtain ⟨R',c',h1,h2,h3,h4⟩:=(HDx.out.kept HF (Or.inl rfl)) u h
        exact ⟨R',c',by rw [List.getElem?_set_ne (by omega)];exact h1,h2,h3,h4⟩
       .obtain rfl:u=v:=by omega
        obtain ⟨hc1,hc2⟩:=aEc HR.out;refine ⟨A,c,by rw [List.getElem?_set_self (by omega),hbl],by omega,hc2,fun x i hx=>?_⟩
        have hR:=HR.out;rw [List.take_of_length_le (by omega)] at hR
        obtain ⟨q,e1,e2,e3,e4,_⟩:=aDs hR (j:=i) (u := .int .i64 x) (by rw [List.getElem?_map,hx];rfl)
        exact ⟨q,e1,by omega,by omega,e3,e4⟩
      .intro u hu hu2
       rw [List.getElem?_set_ne (by omega)]
       exact HN.out u (by omega) hu2
     case measure=>omega
  .have hd0:decide (v<g.ports.length)=false:=by simpa using hlt
   obtain rfl:v=g.ports.length:=by omega
   go_wp2_with fail
   go_ret;have hB:=HBk.out;rw [List.take_of_length_le (by rw [HIL.out];exact Nat.le_refl _)] at hB
   have key:∀ W:World,wo.heap.size<=W.heap.size->(∀ k,w.heap.size<=k->k<wo.heap.size->W.heap[k]?=wo.heap[k]?)->aEi W (.agg #[.string p.name,.slice A1 p.vars.length k1,.slice A2 p.rules.length k2]) p->aAn W (.agg #[.slice A3 g.ids.length k3,.slice A4 g.ports.length k4]) g->aHv W w1.heap.size p g:=by
    intro W hs hk hp hgv
    have hBW:Blk W w1.heap.size (aJi p g A1 k1 A2 k2 A3 k3 A4 k4 (aDp g.ids) (w.heap.size+1+1)) 151:=by
     have:=hB.lt;unfold Blk at *;rw [hk _ (by omega) this];exact hB
    refine ⟨A1,k1,A2,k2,A3,k3,A4,k4,w.heap.size+1+1,hBW,hp,hgv,⟨by simp [aK3],fun u x hx=>?_⟩⟩
    have hul:u<(aK3 g).length:=(List.getElem?_eq_some_iff.1 hx).1;have hu:u<g.ports.length:=by simpa [aK3] using hul
    have hxe:x=aCu g u:=by
     unfold aK3 at hx;rw [List.getElem?_map,List.getElem?_range hu] at hx;simpa using hx.symm
    subst hxe;obtain ⟨R,c,h1,h2,h3,h4⟩:=HD.out u hu;obtain ⟨g',e1,_,hlt',hcl,_⟩:=aDs HO.out h1;obtain rfl:w.heap.size+1+1=g':=by simpa using e1
    refine ⟨_,0,rfl,Nat.lt_of_lt_of_le hlt' hs,R,c,?_,⟨rfl,fun i y hy=>?_⟩,h2,h3⟩
    .rw [Nat.zero_add,Nat.mul_one,World.cell?_of_block (hk (w.heap.size+1+1) (Nat.le_trans (Nat.le_succ _) (Nat.le_succ _)) hlt')];exact hcl
    .obtain ⟨q,e,q1,_,q3,q4⟩:=h4 y i hy
     exact ⟨q,0,e,Nat.lt_of_lt_of_le q3 hs,by unfold aHr;rw [Nat.zero_add,Nat.mul_one,World.cell?_of_block (hk q (Nat.le_trans (Nat.le_trans (Nat.le_succ _) (Nat.le_succ _)) (Nat.le_of_lt q1)) q3)];exact q4⟩
   exact ⟨w1.heap.size,rfl,key wo (Nat.le_refl _) (fun _ _ _=>rfl) (HPV.out _ (aA1 HW)) (HGV.out _ (aA1 HW)),key,by omega,aA1 HW⟩
end Go.Proofs.YtdcjnhoabbdanaaGreatDoor

