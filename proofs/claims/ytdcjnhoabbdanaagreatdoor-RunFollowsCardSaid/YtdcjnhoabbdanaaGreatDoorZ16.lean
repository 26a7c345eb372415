/- Merged. -/
import Derived.Test.YtdcjnhoabbdanaaGreatDoorZ15
set_option linter.unusedSimpArgs false
set_option linter.unnecessarySimpa false
set_option linter.unusedVariables false
set_option maxRecDepth 100000
set_option maxHeartbeats 4000000
open Go.Proofs.Tryz

namespace Go.Proofs.YtdcjnhoabbdanaaGreatDoor
open Go.RowKit
theorem aCf (p:Prg) (g:Graph):(aAz p g).length=g.ids.length:=by simp [aAz]
theorem aEx {p:Prg} {g:Graph} {v:Nat} (h:v<(aAz p g).length):(aAz p g)[v]=aIo p g v:=by simp [aAz]
theorem aC0 (p:Prg) (g:Graph) (v:Nat):(aIo p g v).length=p.vars.length:=by simp [aIo]
theorem aQ8 {p:Prg} {g:Graph} {v i:Nat} (h:i<(aIo p g v).length):(aIo p g v)[i]=aAk (p.vars[i]'(by rw [aC0] at h;exact h)) g v:=by simp [aIo]
theorem aCo (v:Value) (p:Prg) (v2:Value) (g:Graph) (v3:Value) (c:aA7) (w:World) (h:aEm w v p) (h2:aAn w v2 g) (h3:aAy w v3 c) (hL:aAw p=true) (hG:aB3 g=true) (hC:aBl c=true) :
  Calls prog 64 #[v,v2,v3] w fun e w'=>e = .returned (.int .i64 (aCv p g c))/\Bel w w':=by
 have HPV:=aA0 (fun w' (k:Bel w w')=>h.keep k);have HGV:=aA0 (fun w' (k:Bel w w')=>h2.keep k);obtain ⟨A,k,A2,k2,rfl,_,_,_,_,_,_⟩:=h;obtain ⟨A3,k3,A4,k4,rfl,_,_,_,_,_,_⟩:=h2;obtain ⟨A5,k5,rfl,hCR,_,_⟩:=h3;have HCR:=aA0 (fun w' (k:Bel w w')=>aPb.keep hCR k);clear hCR;have HL:=aA0 hL;have HGL:=aA0 hG;obtain ⟨l1,l2⟩:=aBx hC;have HL2:=aA0 l2;clear hL hG hC l2;have HW:=Bel.refl ((w.alloc (.cells #[.string p.name,.slice A p.vars.length k,.slice A2 p.rules.length k2] 25)).alloc (.cells #[.slice A3 g.ids.length k3,.slice A4 g.ports.length k4] 29))
 by_cases hf:aHo p g=0
 .obtain ⟨f1,f2,_⟩:=aAp hf
  have HF1:=aA0 (aBi f1);have HF2:=aA0 f2;have HFZ:=aA0 hf;have HM:Hid (aCv p g c=if aGx (aAz p g) c=false then 10 else 0):=by show aCv p g c=_;unfold aCv;rw [if_neg (by simpa using hf)]
  have HTL:Hid ((aAz p g).length=g.ports.length):=by show (aAz p g).length=_;rw [aCf,f2.ids]
  clear hf f1 f2;have hv6:=HF1.out.2.2.1
  by_cases hn:c.length=g.ports.length
  .have hb:(c.length != c.length)=false:=by simp
   have HN:=aA0 hn;rw [<- hn] at HGV HW ⊢;clear hn;go_enter func64,ntmps64
   go_wp2_with (go_at_call 90;refine (aJl _ p _ g _ (HPV.out _ (aA1 HW)) (HGV.out _ (aA1 HW)) HL.out HGL.out).mono ?_;rintro e w' ⟨rfl,hb⟩;rw [HFZ.out];replace HW:=HW.trans hb;clear hb;obtain ⟨p0,p1,p2,g0,g1,gsz⟩:=aAi HW)
   clear hb p0 p1 p2 g0 g1 gsz
   go_loopg [8,9,10,11] c.length (fun m z _y _x _u wr=>∃ j:Nat,j<=c.length/\m=c.length-j/\z = .int .i64 j/\Hid (∀ i,i<j->(h1:i<c.length)->aEb (aIo p g i) c[i]=true)/\Bel ((w.alloc (.cells #[.string p.name,.slice A p.vars.length k,.slice A2 p.rules.length k2] 25)).alloc (.cells #[.slice A3 g.ids.length k3,.slice A4 c.length k4] 29)) wr)
   case atStart=>exact ⟨0,by omega,rfl,rfl,fun i hi=>absurd hi (by omega),HW⟩
   case round =>
    clear HW;obtain ⟨v,hv,rfl,rfl,HJ,HW⟩:=hrel;obtain ⟨p0,p1,p2,g0,g1,gsz⟩:=aAi HW
    by_cases hlt:v<c.length
    .have hd0:decide (v<c.length)=true:=by simpa using hlt
     have hvp:v<g.ports.length:=by rw [<- HN.out];exact hlt
     obtain ⟨b,o,R,rc,rfl,hb,hc,hI,_,_⟩:=(HCR.out _ (aA1 HW)).at_ v hlt;have hrl:=HL2.out _ (List.getElem_mem hlt)
     by_cases hnl:c[v].length=p.vars.length
     .have hb1:(c[v].length != p.vars.length)=false:=by simpa using hnl
      have hb2:((c[v].length:Int) != (p.vars.length:Int))=false:=by simp;omega
      have HNL:=aA0 hnl;clear hnl
      go_wp2_with fail
      go_quiet (fail)
      go_wp2_with fail
      clear hb1 hb2 p0 p1 p2 g0 g1 gsz hd0 hb hc hI
      go_loopg [9,10,11] c[v].length (fun m z _y _x ws=>∃ j:Nat,j<=c[v].length/\m=c[v].length-j/\z = .int .i64 j/\Hid (∀ i,i<j->(h1:i<c[v].length)->(h2:i<(aIo p g v).length)->(aIo p g v)[i].1<=c[v][i]/\c[v][i]<=(aIo p g v)[i].2)/\Bel ((w.alloc (.cells #[.string p.name,.slice A p.vars.length k,.slice A2 p.rules.length k2] 25)).alloc (.cells #[.slice A3 g.ids.length k3,.slice A4 c.length k4] 29)) ws)
      case atStart=>exact ⟨0,by omega,rfl,rfl,fun i hi=>absurd hi (by omega),HW.drewN _⟩
      case round =>
       clear HW;obtain ⟨j,hj,rfl,rfl,HQ,HW⟩:=hrel;obtain ⟨p0,p1,p2,g0,g1,gsz⟩:=aAi HW;obtain ⟨b',o',R',rc',e',hb,hc,hI,_,_⟩:=(HCR.out _ (aA1 HW)).at_ v hlt;obtain ⟨rfl,rfl⟩:b=b'/\o=o':=by simpa using e'
       clear e'
       by_cases hlt2:j<c[v].length
       .have hd0:decide (j<c[v].length)=true:=by simpa using hlt2
        have hjv:j<p.vars.length:=by rw [<- HNL.out];exact hlt2
        have hjr:j<(aIo p g v).length:=by rw [aC0];exact hjv
        have HRE:=aA0 (aQ8 hjr);have HNX:=aA0 (List.all_eq_true.1 HF1.out.1 _ (List.getElem_mem hjv));have hdv:decide (v<c.length)=true:=by simpa using hlt
        go_wp2_with fail
        refine (aJy _ p _ g v j _ (HPV.out _ (aA1 HW)) (HGV.out _ (aA1 HW)) hjv HNX.out HF2.out hvp HGL.out).mono ?_
        rintro e w' ⟨rfl,hbe⟩;rw [<- HRE.out];replace HW:=HW.trans hbe;clear hbe p0 p1 p2 g0 g1 gsz hb hc hI;obtain ⟨p0,p1,p2,g0,g1,gsz⟩:=aAi HW;obtain ⟨b',o',R2,rc2,e',hb,hc,hI,_,_⟩:=(HCR.out _ (aA1 HW)).at_ v hlt;obtain ⟨rfl,rfl⟩:b=b'/\o=o':=by simpa using e'
        clear e';obtain ⟨b3,o3,rfl,hb3,hc3⟩:=hI.at_ j hlt2
        by_cases hin:(aIo p g v)[j].1<=c[v][j]/\c[v][j]<=(aIo p g v)[j].2
        .have d1:inB c[v][j] (aIo p g v)[j].1 (aIo p g v)[j].2=true:=aDm hin.1 hin.2
         have HIN:=aA0 hin;clear hin
         go_wp2_with (go_at_call 92;refine (aCk _ _ _ _).mono ?_;rintro e w' ⟨rfl,rfl⟩)
         go_roundg (c[v].length-(j+1))
         case rel =>
          refine ⟨j+1,by omega,rfl,by go_num,?_,HW⟩
          intro i hi a1 a2
          rcases Nat.lt_or_ge i j with h | h
          .exact HQ.out i h a1 a2
          .obtain rfl:i=j:=by omega
           exact HIN.out
         case measure=>omega
        .have d1:inB c[v][j] (aIo p g v)[j].1 (aIo p g v)[j].2=false:=aHz (by omega)
         have HCF:Hid (aGx (aAz p g) c=false):=aFg fun hh=>by
          have h3:=hh.2 v hlt (by rw [HTL.out];exact hvp)
          rw [aEx] at h3;exact hin ((aC7.1 h3).2 j hlt2 hjr)
         rw [HCF.out,if_pos rfl] at HM;clear hin
         go_wp2_with (go_at_call 92;refine (aCk _ _ _ _).mono ?_;rintro e w' ⟨rfl,rfl⟩)
         go_ret;exact ⟨aA5 HM.out.symm,aA1 HW⟩
       .have hd0:decide (j<c[v].length)=false:=by simpa using hlt2
        have hdv:decide (v<c.length)=true:=by simpa using hlt
        go_wp2_with fail
        go_roundg (c.length-(v+1))
        case rel =>
         refine ⟨v+1,by omega,rfl,by go_num,?_,HW⟩
         intro i hi a1
         rcases Nat.lt_or_ge i v with h | h
         .exact HJ.out i h a1
         .obtain rfl:i=v:=by omega
          rw [aC7];exact ⟨by rw [aC0,HNL.out],fun q b1 b2=>HQ.out q (by omega) b1 b2⟩
        case measure=>omega
     .obtain ⟨n1,n2⟩:=aPx hnl
      have HCF:Hid (aGx (aAz p g) c=false):=aFg fun hh=>by
       have h3:=hh.2 v hlt (by rw [HTL.out];exact hvp)
       rw [aEx] at h3;have:=(aC7.1 h3).1;rw [aC0] at this;exact hnl this
      rw [HCF.out,if_pos rfl] at HM;clear hnl
      go_wp2_with fail
      go_quiet (fail)
      go_wp2_with fail
      go_ret;exact ⟨aA5 HM.out.symm,(aA1 HW).drewN _⟩
    .have hd0:decide (v<c.length)=false:=by simpa using hlt
     have HCF:Hid (aGx (aAz p g) c=true):=by
      show aGx (aAz p g) c=true
      rw [aCa];refine ⟨by rw [HTL.out,HN.out],fun i a1 a2=>?_⟩
      rw [aEx];exact HJ.out i (by omega) a1
     rw [HCF.out,if_neg (by decide)] at HM
     go_wp2_with fail
     go_ret;exact ⟨aA5 HM.out.symm,aA1 HW⟩
  .obtain ⟨n1,n2⟩:=aPx hn
   have HCF:Hid (aGx (aAz p g) c=false):=aFg fun hh=>hn (by rw [hh.1,HTL.out])
   rw [HCF.out,if_pos rfl] at HM;clear hn;go_enter func64,ntmps64
   go_wp2_with (go_at_call 90;refine (aJl _ p _ g _ (HPV.out _ (aA1 HW)) (HGV.out _ (aA1 HW)) HL.out HGL.out).mono ?_;rintro e w' ⟨rfl,hb⟩;rw [HFZ.out];replace HW:=HW.trans hb;clear hb;obtain ⟨p0,p1,p2,g0,g1,gsz⟩:=aAi HW)
   go_ret;exact ⟨aA5 HM.out.symm,aA1 HW⟩
 .have HM:Hid (aCv p g c=aHo p g):=by show aCv p g c=_;unfold aCv;rw [if_pos hf]
  have hfb:(aHo p g != 0)=true:=by simpa using hf
  go_enter func64,ntmps64
  go_wp2_with (go_at_call 90;refine (aJl _ p _ g _ (HPV.out _ (aA1 HW)) (HGV.out _ (aA1 HW)) HL.out HGL.out).mono ?_;rintro e w' ⟨rfl,hb⟩;replace HW:=HW.trans hb;clear hb)
  go_ret;exact ⟨aA5 HM.out.symm,aA1 HW⟩
theorem aI8 (v:Value) (p:Prg) (v2:Value) (g:Graph) (v3:Value) (c:aA7) (w:World) (h:aEm w v p) (h2:aAn w v2 g) (h3:aAy w v3 c) (hL:aAw p=true) (hG:aB3 g=true) (hC:aBl c=true) :
  Calls prog 42 #[v,v2,v3] w fun e w'=>e = .returned (.bool (decide (aCv p g c=0)))/\Bel w w':=by
 have HPV:=aA0 (fun w' (k:Bel w w')=>h.keep k);have HGV:=aA0 (fun w' (k:Bel w w')=>h2.keep k);have HCV:=aA0 (fun w' (k:Bel w w')=>h3.keep k);obtain ⟨A,k,A2,k2,rfl,_,_,_,_,_,_⟩:=h;obtain ⟨A3,k3,A4,k4,rfl,_,_,_,_,_,_⟩:=h2;obtain ⟨A5,k5,rfl,_,_,_⟩:=h3;have HW:=Bel.refl ((w.alloc (.cells #[.string p.name,.slice A p.vars.length k,.slice A2 p.rules.length k2] 25)).alloc (.cells #[.slice A3 g.ids.length k3,.slice A4 g.ports.length k4] 29));go_enter func42,ntmps42
 go_wp2_with (go_at_call 64;refine (aCo _ p _ g _ c _ (HPV.out _ (aA1 HW)) (HGV.out _ (aA1 HW)) (HCV.out _ (aA1 HW)) hL hG hC).mono ?_;rintro e w' ⟨rfl,hb⟩;replace HW:=HW.trans hb;clear hb)
 go_ret;exact ⟨aA2 (by rw [Bool.eq_iff_iff];simp),aA1 HW⟩
def aGk (g:Graph) (v:Nat) (port:Int):Link:=(g.ports.getD v []).getD port.toNat default
def aD8 (g:Graph) (op:Int) (v:Nat) (port:Int):Int :=
 if op=6 then g.ids.length else if op=7 then aDf g.ids else if op=8 then g.ids.getD v 0 else if op=9 then (g.ports.getD v []).length
 else if op=10 then aBg (decide (v=0)) else if op=11 then port
 else if op=13 then g.ids.getD (aGk g v port).to.toNat 0
 else if op=14 then (g.ports.getD (aGk g v port).to.toNat []).length
 else if op=15 then aBg (decide ((aGk g v port).to=0))
 else if op=16 then (aGk g v port).weight
 else aDj (g.ports.getD (aGk g v port).to.toNat []) v
def aGg (g:Graph) (c:aA7) (v:Nat) (port:Int) (t:Term):Int :=
 if t.op=1 then t.arg else if t.op=2 then 1 else if t.op=3 then 0 else if t.op=4 then -1
 else if t.op=5 then (c.getD v []).getD t.arg.toNat 0
 else if t.op=12 then (c.getD (aGk g v port).to.toNat []).getD t.arg.toNat 0
 else aD8 g t.op v port
def aAs (g:Graph) (c:aA7) (v:Nat):Int->Ex->Int
 | port,.leaf t=>aGg g c v port t
 | port,.un t a=>if aAc t.op then aIt t.op ((List.range (g.ports.getD v []).length).map fun (k:Nat)=>aAs g c v (k:Int) a) else aHm t.op (aAs g c v port a)
 | port,.bin t a b=>aDo t.op (aAs g c v port a) (aAs g c v port b)
 | port,.tri _ a b d=>if aAs g c v port a≠0 then aAs g c v port b else aAs g c v port d
def aB1:Bool->Ex->Prop
 | b,.leaf t=>aCw t.op=true->b=true
 | b,.un t a=>aB1 (b||aAc t.op) a
 | b,.bin _ x y=>aB1 b x/\aB1 b y
 | b,.tri _ x y z=>aB1 b x/\aB1 b y/\aB1 b z
theorem bA1 {b:Bool} {k:Int} (h:ifK b k≠0):b=true/\k≠0:=by
 unfold ifK at h;cases b
 .exact absurd rfl h
 .exact ⟨rfl,h⟩
theorem aVt {op a:Int} (h:aGi op a≠0):a≠0:=by
 unfold aGi at h;rintro rfl
 repeat' split at h
 all_goals exact h rfl
theorem aUt {op a b:Int} (h:aHx op a b≠0):a≠0/\b≠0:=by
 unfold aHx at h
 repeat' split at h
 all_goals
  have:=(bA1 h).1;simp at this
  omega
theorem aOn {kinds:List Int} {x:Ex}:∀ {b:Bool},aB4 kinds b x≠0->aB1 b x:=by
 induction x with
 | leaf t =>
  intro b h hn
  simp only [aB4] at h
  cases b
  .rw [hn] at h;exact absurd rfl h
  .rfl
 | un t a ih=>intro b h;exact ih (aVt h)
 | bin t x y ihx ihy=>intro b h;obtain ⟨h1,h2⟩:=aUt h;exact ⟨ihx h1,ihy h2⟩
 | tri t x y z ihx ihy ihz =>
  intro b h
  obtain ⟨h1,h2⟩:=bA1 h;simp at h1
  refine ⟨ihx (by omega),ihy h2,ihz ?_⟩
  rw [<- h1.2];exact h2
theorem aPm (l:List Int):∀ i:Int,aDw l i = -1∨(i<=aDw l i/\aDw l i<i+l.length):=by
 induction l with
 | nil=>intro i;left;rfl
 | cons a l ih =>
  intro i
  simp only [aDw]
  split
  .right;simp;omega
  .rcases ih (i+1) with h | h
   .left;exact h
   .right;simp;omega
theorem aPq (l:List Int):∀ z:Int,Num z->(∀ x∈l,Num x)->Num (l.foldl min z):=by
 induction l with
 | nil=>intro z hz _;exact hz
 | cons a l ih =>
  intro z hz h
  refine ih _ ?_ (fun x hx=>h x (by simp [hx]))
  have:=h a (by simp)
  unfold Num at *;omega
theorem aS9 (l:List Int):∀ a b:Int,Num a->Num b->(∀ x∈l,Num x)->Num (aJp l a b).1/\Num (aJp l a b).2:=by
 induction l with
 | nil=>intro a b ha hb _;exact ⟨ha,hb⟩
 | cons x l ih =>
  intro a b ha hb h
  have hx:=h x (by simp)
  have hr:∀ y∈l,Num y:=fun y hy=>h y (by simp [hy])
  simp only [aJp]
  split
  .exact ih _ _ hx ha hr
  .refine ih _ _ ha ?_ hr
   unfold Num at *;omega
theorem aWy {op:Int} {l:List Int} (hn:∀ x∈l,Num x) (hl:l.length<=1000):Num (aIt op l):=by
 unfold aIt;split
 .exact aEl _
 split
 .exact aEl _
 split
 .have:=aWr l;unfold Num;omega
 split
 .have:=aPm l 0;unfold Num;omega
 split
 .exact aPq l _ (by unfold Num;omega) hn
 split
 .exact (aS9 l _ _ (by unfold Num;omega) (by unfold Num;omega) hn).1
 split
 .exact aUh _
 split
 .have h1:=aZd l (aKn l 0) 0 (Nat.le_refl _)
  have h2:=aPk l 0;unfold aZc Num;omega
 split
 .exact (aS9 l _ _ (by unfold Num;omega) (by unfold Num;omega) hn).2
 .cases l with
  | nil=>unfold Num;simp
  | cons a l=>exact hn a (by simp)
theorem aVy {op a:Int} (h:Num a):Num (aHm op a):=by
 unfold aHm;split
 .unfold Num at *;omega
 .exact aEl _
theorem aSm {op a b:Int}:Num (aDo op a b):=aUh _
structure SOK (p:Prg) (g:Graph) (c:aA7) (v:Nat):Prop where
 fits:aHo p g=0
 conf:aGx (aAz p g) c=true
 node:v<g.ports.length
theorem SOK.gok {p:Prg} {g:Graph} {c:aA7} {v:Nat} (h:SOK p g c v):GOK g:=(aAp h.fits).2.1
theorem SOK.len {p:Prg} {g:Graph} {c:aA7} {v:Nat} (h:SOK p g c v):c.length=g.ports.length:=by
 rw [(aCa.1 h.conf).1,aCf,h.gok.ids]
theorem SOK.row {p:Prg} {g:Graph} {c:aA7} {v:Nat} (h:SOK p g c v) {u:Nat} (hu:u<g.ports.length):(c[u]'(by rw [h.len];exact hu)).length=p.vars.length:=by
 have:=(aCa.1 h.conf).2 u (by rw [h.len];exact hu) (by rw [aCf,h.gok.ids];exact hu)
 rw [aEx] at this;have:=(aC7.1 this).1
 rwa [aC0] at this
theorem SOK.val {p:Prg} {g:Graph} {c:aA7} {v:Nat} (h:SOK p g c v) {u i:Nat} (hu:u<g.ports.length) (hi:i<p.vars.length) :
  (aAk p.vars[i] g u).1<=(c[u]'(by rw [h.len];exact hu))[i]'(by rw [h.row hu];exact hi)/\(c[u]'(by rw [h.len];exact hu))[i]'(by rw [h.row hu];exact hi)<=(aAk p.vars[i] g u).2:=by
 have h1:=(aCa.1 h.conf).2 u (by rw [h.len];exact hu) (by rw [aCf,h.gok.ids];exact hu)
 rw [aEx] at h1;have:=(aC7.1 h1).2 i (by rw [h.row hu];exact hi) (by rw [aC0];exact hi)
 rwa [aQ8] at this
theorem SOK.small {p:Prg} {g:Graph} {c:aA7} {v:Nat} (h:SOK p g c v) {u i:Nat} (hu:u<g.ports.length) (hi:i<p.vars.length):Num ((c.getD u []).getD i 0):=by
 have h1:=h.val hu hi;have h2:=aHw (List.all_eq_true.1 (aBi (aAp h.fits).1).1 _ (List.getElem_mem hi)) h.gok hu;have e1:c.getD u []=c[u]'(by rw [h.len];exact hu):=aAa (by rw [h.len];exact hu)
 rw [e1,aAa (by rw [h.row hu];exact hi)]
 unfold Num;omega
theorem aJg {g:Graph} (hg:GOK g) {v k:Nat} (hv:v<g.ports.length) (hk:k<g.ports[v].length) :
  aGk g v (k:Int)=g.ports[v][k]/\∃ t:Nat,g.ports[v][k].to=(t:Int)/\t<g.ports.length/\1<=g.ports[v][k].weight/\g.ports[v][k].weight<=15/\g.ports[v].length<g.ports.length:=by
 have h1:=hg.links v hv;obtain ⟨a1,a2,a3,a4,a5⟩:=aBt.1 ((aBj.1 h1).1 _ (List.getElem_mem hk));obtain ⟨t,ht⟩:=Int.eq_ofNat_of_zero_le a1;refine ⟨?_,t,ht,by omega,a4,a5,aCh hv h1⟩
 unfold aGk;rw [aAa hv,Int.toNat_natCast,aAa hk]
def aG6 (g:Graph) (v:Nat) (b:Bool) (port:Int):Prop:=b=true->∃ k:Nat,port=(k:Int)/\k<(g.ports.getD v []).length
theorem aSz {l:List Int} {k:Nat} {P:Int->Prop} (h0:P 0) (h:∀ x∈l,P x):P (l.getD k 0):=by
 rw [List.getD_eq_getElem?_getD];cases hx:l[k]? with
 | none=>exact h0
 | some x=>exact h x (List.mem_of_getElem? hx)
theorem aZ2 {g:Graph} (hg:GOK g) {op:Int} {v:Nat} {port:Int} {b:Bool} (hv:v<g.ports.length) (hop:6<=op/\op<=17/\op≠12) (hb:aCw op=true->b=true) (hp:aG6 g v b port):Num (aD8 g op v port):=by
 have hle:=hg.le;have hids:=hg.ids;obtain ⟨g1,g2⟩:=aIk hg;have hid:∀ k,Num (g.ids.getD k 0):=fun k=>aSz (P:=Num) (by unfold Num;omega) (fun x hx=>by have:=hg.idr x hx;unfold Num;omega)
 have hlen:∀ u,(g.ports.getD u []).length<=24:=fun u=>by
  rcases Nat.lt_or_ge u g.ports.length with h | h
  .rw [aAa h];have:=aCh h (hg.links u h);omega
  .rw [List.getD_eq_getElem?_getD,List.getElem?_eq_none h];simp
 by_cases hn:11<=op
 .have hnear:aCw op=true:=by unfold aCw;simp;omega
  obtain ⟨k,rfl,hk⟩:=hp (hb hnear);rw [aAa hv] at hk;obtain ⟨e,t,ht,htl,w1,w2,hl⟩:=aJg hg hv hk;have hr:=aNi (g.ports.getD t []) (v:Int);have:=hlen t;have hlv:=hlen v;unfold aD8;rw [e,ht,Int.toNat_natCast];generalize g.ports[v][k].weight=wt at *;generalize (g.ports.getD t []).length=len at *;generalize aDj (g.ports.getD t []) (v:Int)=pf at *;generalize (g.ports.getD v []).length=lv at *;generalize aDf g.ids=gm at *;have n0:Num (g.ids.length:Int):=by unfold Num;omega
  have n1:Num gm:=by unfold Num;omega
  have n2:Num (lv:Int):=by unfold Num;omega
  have n3:Num (k:Int):=by unfold Num;omega
  have n4:Num (len:Int):=by unfold Num;omega
  have n5:Num wt:=by unfold Num;omega
  have n6:Num pf:=by unfold Num;omega
  by_cases c1:op=6
  .rw [if_pos c1];exact n0
  rw [if_neg c1]
  by_cases c2:op=7
  .rw [if_pos c2];exact n1
  rw [if_neg c2]
  by_cases c3:op=8
  .rw [if_pos c3];exact hid _
  rw [if_neg c3]
  by_cases c4:op=9
  .rw [if_pos c4];exact n2
  rw [if_neg c4]
  by_cases c5:op=10
  .rw [if_pos c5];exact aEl _
  rw [if_neg c5]
  by_cases c6:op=11
  .rw [if_pos c6];exact n3
  rw [if_neg c6]
  by_cases c7:op=13
  .rw [if_pos c7];exact hid _
  rw [if_neg c7]
  by_cases c8:op=14
  .rw [if_pos c8];exact n4
  rw [if_neg c8]
  by_cases c9:op=15
  .rw [if_pos c9];exact aEl _
  rw [if_neg c9]
  by_cases c10:op=16
  .rw [if_pos c10];exact n5
  rw [if_neg c10];exact n6
 .unfold aD8
  have hlv:=hlen v
  by_cases c1:op=6
  .rw [if_pos c1];unfold Num;omega
  rw [if_neg c1]
  by_cases c2:op=7
  .rw [if_pos c2];unfold Num;omega
  rw [if_neg c2]
  by_cases c3:op=8
  .rw [if_pos c3];exact hid _
  rw [if_neg c3]
  by_cases c4:op=9
  .rw [if_pos c4];unfold Num;omega
  rw [if_neg c4]
  by_cases c5:op=10
  .rw [if_pos c5];exact aEl _
  exfalso;omega
theorem aZ8 {p:Prg} {g:Graph} {c:aA7} {v:Nat} (h:SOK p g c v) {t:Term} {port:Int} {b:Bool} (har:aAg t.op=0) (ha:aFx t p.vars.length=true) (hb:aCw t.op=true->b=true) (hp:aG6 g v b port):Num (aGg g c v port t):=by
 have hr:=(aB6 t.op).1 har;obtain ⟨op,arg⟩:=t;dsimp only at *;unfold aGg;dsimp only
 by_cases h1:op=1
 .rw [if_pos h1]
  subst h1;have hd:decide (0<=arg/\arg<=1073741824)=true:=ha;have:=of_decide_eq_true hd;unfold Num;omega
 rw [if_neg h1];split
 .unfold Num;omega
 split
 .unfold Num;omega
 split
 .unfold Num;omega
 split
 .rename_i h5
  obtain ⟨a1,a2⟩:=aHu ha (.inl h5);obtain ⟨a,rfl⟩:=Int.eq_ofNat_of_zero_le a1;rw [Int.toNat_natCast];exact h.small h.node (by omega)
 split
 .rename_i h12
  obtain ⟨a1,a2⟩:=aHu ha (.inr h12);obtain ⟨a,rfl⟩:=Int.eq_ofNat_of_zero_le a1;obtain ⟨k,rfl,hk⟩:=hp (hb (by unfold aCw;simp;omega))
  rw [aAa h.node] at hk;obtain ⟨e,t,ht,htl,_⟩:=aJg h.gok h.node hk;rw [e,ht,Int.toNat_natCast,Int.toNat_natCast];exact h.small htl (by omega)
 .rename_i h2 h3 h4 h5 h12
  exact aZ2 h.gok h.node (by omega) hb hp
theorem aXs {g:Graph} (hg:GOK g) {v:Nat} (hv:v<g.ports.length):(g.ports.getD v []).length<24:=by
 rw [aAa hv];have:=aCh hv (hg.links v hv);have:=hg.le;omega
theorem aH1 {p:Prg} {g:Graph} {c:aA7} {v:Nat} (h:SOK p g c v) {x:Ex} (hx:x.ok) (ha:∀ t∈x.terms,aFx t p.vars.length=true):∀ {b:Bool} {port:Int},aB1 b x->aG6 g v b port->Num (aAs g c v port x):=by
 induction x with
 | leaf t=>intro b port hb hp;exact aZ8 h hx (ha t (by simp [Ex.terms])) hb hp
 | un t a ih =>
  intro b port hb hp
  have ha':∀ s∈a.terms,aFx s p.vars.length=true:=fun s hs=>ha s (by simp [Ex.terms,hs])
  simp only [aAs]
  split
  .rename_i hag
   refine aWy (fun y hy=>?_) (by rw [List.length_map,List.length_range];have:=aXs h.gok h.node;omega)
   obtain ⟨k,hk,rfl⟩:=List.mem_map.1 hy;rw [List.mem_range] at hk;refine ih hx.2 ha' (b:=true) ?_ (fun _=>⟨k,rfl,hk⟩)
   have hb':aB1 (b||aAc t.op) a:=hb
   rwa [hag,Bool.or_true] at hb'
  .rename_i hag
   refine aVy (ih hx.2 ha' (b:=b) ?_ hp)
   have hb':aB1 (b||aAc t.op) a:=hb
   rwa [show aAc t.op=false by simpa using hag,Bool.or_false] at hb'
 | bin t x y ihx ihy=>intro b port hb hp;exact aSm
 | tri t x y z ihx ihy ihz =>
  intro b port hb hp
  simp only [aAs]
  obtain ⟨_,_,o2,o3⟩:=hx;split
  .exact ihy o2 (fun s hs=>ha s (by simp [Ex.terms,hs])) hb.2.1 hp
  .exact ihz o3 (fun s hs=>ha s (by simp [Ex.terms,hs])) hb.2.2 hp
theorem aWu {op:Int} (h:6<=op/\op<=17/\op≠12):(op=6∨op=7∨op=8∨op=9∨op=10∨op=11)∨(op=13∨op=14∨op=15∨op=16∨op=17):=by omega
theorem aTk (v2:Value) (g:Graph) (op:Int) (v:Nat) (port:Int) (b:Bool) (w:World) (h2:aAn w v2 g) (hg:GOK g) (hv:v<g.ports.length) (hop:6<=op/\op<=17/\op≠12) (hb:aCw op=true->b=true) (hp:aG6 g v b port) :
  Calls prog 151 #[v2,.int .i64 op,.int .i64 v,.int .i64 port] w fun e w'=>e = .returned (.int .i64 (aD8 g op v port))/\Bel w w':=by
 have HGV:=aA0 (fun w' (k:Bel w w')=>h2.keep k);obtain ⟨A,k,A2,k2,rfl,hI,_,_,hP,_,_⟩:=h2;have hids:=hg.ids;have hle:=hg.le;have hvi:v<g.ids.length:=by omega
 have hl1000:g.ids.length<=1000:=by omega
 obtain ⟨b1,o1,rfl,hb1,hid⟩:=hI.at_ v hvi;obtain ⟨b2,o2,R,rc,rfl,hb2,hrow,hL,_,_⟩:=hP.at_ v hv;have HB:=(Bel.refl w).alloc (.cells #[.slice (some ⟨b1,o1,none⟩) g.ids.length k,.slice (some ⟨b2,o2,none⟩) g.ports.length k2] 29);have hdv:decide (v<g.ports.length)=true:=by simpa using hv
 have hdi:decide (v<g.ids.length)=true:=by simpa using hvi
 have HID:=aA0 hids;clear hids
 rcases aWu hop with (rfl | rfl | rfl | rfl | rfl | rfl) | hnear
 .have HF:Hid (aD8 g 6 v port=g.ports.length):=by show aD8 g 6 v port=_;unfold aD8;rw [if_pos rfl,HID.out]
  clear hI hP hb hp hop;go_enter func151,ntmps151;go_wp2;go_ret;exact ⟨aA5 HF.out.symm,HB⟩
 .clear hI hP hb hp hop
  have HF:Hid (aD8 g 7 v port=aDf g.ids):=rfl;go_enter func151,ntmps151
  go_wp2_with (go_at_call 115;refine (aLc _ g _ (HGV.out _ HB) hl1000).mono ?_;rintro e w' ⟨rfl,hbb⟩;replace HB:=HB.trans hbb;clear hbb)
  go_ret;exact ⟨aA5 HF.out.symm,HB⟩
 .have HF:Hid (aD8 g 8 v port=g.ids[v]):=aAa hvi
  clear hI hP hb hp hop;go_enter func151,ntmps151;go_wp2;go_ret;exact ⟨aA5 HF.out.symm,HB⟩
 .have HF:Hid (aD8 g 9 v port=(g.ports[v].length:Int)):=by show aD8 g 9 v port=_;rw [<- aAa (d:=[]) hv];rfl
  clear hI hP hb hp hop;go_enter func151,ntmps151;go_wp2;go_ret;exact ⟨aA5 HF.out.symm,HB⟩
 .have HF:Hid (aD8 g 10 v port=aBg (decide (v=0))):=rfl
  obtain ⟨z,hz⟩:∃ z,decide (v=0)=z:=⟨_,rfl⟩;rw [hz] at HF;have hz1:((v:Int)==0)=z:=by rw [<- hz,Bool.eq_iff_iff];simp
  have hz2:(v==0)=z:=by rw [<- hz,Bool.eq_iff_iff];simp
  clear hI hP hb hp hop hz;go_enter func151,ntmps151
  go_wp2_with (go_at_call 152;refine (aCd _ _).mono ?_;rintro e w' ⟨rfl,rfl⟩)
  go_ret;exact ⟨aA5 HF.out.symm,HB⟩
 .have HF:Hid (aD8 g 11 v port=port):=rfl
  clear hI hP hb hp hop;go_enter func151,ntmps151;go_wp2;go_ret;exact ⟨aA5 HF.out.symm,HB⟩
 .obtain ⟨q,rfl,hq⟩:=hp (hb (by unfold aCw;simp;omega))
  rw [aAa hv] at hq;obtain ⟨e,t,ht,htl,_⟩:=aJg hg hv hq;obtain ⟨b3,o3,rfl,hb3,hto,hwe⟩:=hL.at_ q hq;have hti:t<g.ids.length:=by rw [HID.out];exact htl
  obtain ⟨b4,o4,e4,_,hid4⟩:=hI.at_ t hti;obtain ⟨rfl,rfl⟩:b1=b4/\o1=o4:=by simpa using e4
  obtain ⟨b5,o5,R5,rc5,e5,_,hrow5,_,_,_⟩:=hP.at_ t htl;obtain ⟨rfl,rfl⟩:b2=b5/\o2=o5:=by simpa using e5
  rw [ht] at hto;have hdt:decide (t<g.ports.length)=true:=by simpa using htl
  have hdti:decide (t<g.ids.length)=true:=by simpa using hti
  have hdq:decide (q<g.ports[v].length)=true:=by simpa using hq
  have HE:=aA0 e;have HT:=aA0 ht;clear hI hP hb hp hop e4 e5 e ht hL
  rcases hnear with rfl | rfl | rfl | rfl | rfl
  .have HF:Hid (aD8 g 13 v (q:Int)=g.ids[t]):=by show g.ids.getD (aGk g v q).to.toNat 0=_;rw [HE.out,HT.out,Int.toNat_natCast,aAa hti]
   go_enter func151,ntmps151;go_wp2;go_ret;exact ⟨aA5 HF.out.symm,HB⟩
  .have HF:Hid (aD8 g 14 v (q:Int)=(g.ports[t].length:Int)):=by show ((g.ports.getD (aGk g v q).to.toNat []).length:Int)=_;rw [HE.out,HT.out,Int.toNat_natCast,aAa htl]
   go_enter func151,ntmps151;go_wp2;go_ret;exact ⟨aA5 HF.out.symm,HB⟩
  .have HF:Hid (aD8 g 15 v (q:Int)=aBg (decide ((t:Int)=0))):=by show aBg (decide ((aGk g v q).to=0))=_;rw [HE.out,HT.out]
   obtain ⟨z,hz⟩:∃ z,decide ((t:Int)=0)=z:=⟨_,rfl⟩;rw [hz] at HF;have hz1:((t:Int)==0)=z:=by rw [<- hz,Bool.eq_iff_iff];simp
   have hz2:(t==0)=z:=by rw [<- hz,Bool.eq_iff_iff];simp
   clear hz;go_enter func151,ntmps151
   go_wp2_with (go_at_call 152;refine (aCd _ _).mono ?_;rintro e w' ⟨rfl,rfl⟩)
   go_ret;exact ⟨aA5 HF.out.symm,HB⟩
  .have HF:Hid (aD8 g 16 v (q:Int)=g.ports[v][q].weight):=by show (aGk g v q).weight=_;rw [HE.out]
   go_enter func151,ntmps151;go_wp2;go_ret;exact ⟨aA5 HF.out.symm,HB⟩
  .have HF:Hid (aD8 g 17 v (q:Int)=aDj g.ports[t] v):=by show aDj (g.ports.getD (aGk g v q).to.toNat []) v=_;rw [HE.out,HT.out,Int.toNat_natCast,aAa htl]
   go_enter func151,ntmps151
   go_wp2_with (go_at_call 98;refine (aOx _ g t (v:Int) _ (HGV.out _ HB) htl).mono ?_;rintro e w' ⟨rfl,hbb⟩;replace HB:=HB.trans hbb;clear hbb)
   go_ret;exact ⟨aA5 HF.out.symm,HB⟩
theorem aXa {op:Int} (h:1<=op/\op<=17):(op=1∨op=2∨op=3∨op=4)∨op=5∨op=12∨(6<=op/\op<=17/\op≠12):=by omega
theorem aRs (v2:Value) (p:Prg) (g:Graph) (v3:Value) (c:aA7) (v:Nat) (port:Int) (t:Term) (b:Bool) (w:World) (h2:aAn w v2 g) (h3:aAy w v3 c) (hs:SOK p g c v) (har:aAg t.op=0) (ha:aFx t p.vars.length=true) (hb:aCw t.op=true->b=true) (hp:aG6 g v b port) :
  Calls prog 133 #[v2,v3,.int .i64 v,.int .i64 port,.agg #[.int .i64 t.op,.int .i64 t.arg]] w fun e w'=>e = .returned (.int .i64 (aGg g c v port t))/\Bel w w':=by
 have hr:=(aB6 t.op).1 har;have HGV:=aA0 (fun w' (k:Bel w w')=>h2.keep k);obtain ⟨A,k,A2,k2,rfl,hI,_,_,hP,_,_⟩:=h2;obtain ⟨A3,k3,rfl,hC,_,_⟩:=h3;obtain ⟨op,arg⟩:=t;dsimp only at *;have hv:=hs.node;have hdv:decide (v<c.length)=true:=by simp [hs.len,hv]
 have HB:=((Bel.refl w).alloc (.cells #[.slice A g.ids.length k,.slice A2 g.ports.length k2] 29)).alloc (.cells #[.int .i64 op,.int .i64 arg] 98)
 rcases aXa hr with hq | rfl | rfl | hq
 .clear hI hP hC hb hp har
  have HF:Hid (aGg g c v port ⟨op,arg⟩=if op=1 then arg else if op=2 then 1 else if op=3 then 0 else -1):=by
   show aGg g c v port ⟨op,arg⟩=_
   unfold aGg
   rcases hq with rfl | rfl | rfl | rfl <;> simp
  rcases hq with rfl | rfl | rfl | rfl
  all_goals
   go_enter func133,ntmps133;go_wp2;go_ret;exact ⟨aA5 HF.out.symm,HB⟩
 .obtain ⟨a1,a2⟩:=aHu ha (.inl rfl)
  obtain ⟨a,rfl⟩:=Int.eq_ofNat_of_zero_le a1;have hvc:v<c.length:=by rw [hs.len];exact hv
  have hac:a<c[v].length:=by rw [hs.row hv];omega
  obtain ⟨b1,o1,R,rc,rfl,hb1,hrow,hR,_,_⟩:=hC.at_ v hvc;obtain ⟨b2,o2,rfl,hb2,hval⟩:=hR.at_ a hac
  have HF:Hid (aGg g c v port ⟨5,(a:Int)⟩=c[v][a]):=by
   show (c.getD v []).getD (a:Int).toNat 0=_
   rw [Int.toNat_natCast,aAa hvc,aAa hac]
  have hda:decide (a<c[v].length)=true:=by simpa using hac
  clear hI hP hC hb hp har hR ha;go_enter func133,ntmps133;go_wp2
  go_quiet (fail)
  go_wp2;go_ret;exact ⟨aA5 HF.out.symm,HB.drewN _⟩
 .obtain ⟨a1,a2⟩:=aHu ha (.inr rfl)
  obtain ⟨a,rfl⟩:=Int.eq_ofNat_of_zero_le a1;obtain ⟨q,rfl,hq⟩:=hp (hb (by unfold aCw;simp))
  rw [aAa hv] at hq;obtain ⟨e,t,ht,htl,_⟩:=aJg hs.gok hv hq;obtain ⟨b3,o3,R3,rc3,rfl,hb3,hrow3,hL3,_,_⟩:=hP.at_ v hv;obtain ⟨b4,o4,rfl,hb4,hto,_⟩:=hL3.at_ q hq;rw [ht] at hto;have htc:t<c.length:=by rw [hs.len];exact htl
  have hac:a<c[t].length:=by rw [hs.row htl];omega
  obtain ⟨b1,o1,R,rc,rfl,hb1,hrow,hR,_,_⟩:=hC.at_ t htc;obtain ⟨b2,o2,rfl,hb2,hval⟩:=hR.at_ a hac
  have HF:Hid (aGg g c v (q:Int) ⟨12,(a:Int)⟩=c[t][a]):=by
   show (c.getD (aGk g v q).to.toNat []).getD (a:Int).toNat 0=_
   rw [e,ht,Int.toNat_natCast,Int.toNat_natCast,aAa htc,aAa hac]
  have hda:decide (a<c[t].length)=true:=by simpa using hac
  have hdt:decide (t<c.length)=true:=by simpa using htc
  have hdp:decide (v<g.ports.length)=true:=by simpa using hv
  have hdq:decide (q<g.ports[v].length)=true:=by simpa using hq
  clear hI hP hC hb hp har hR ha hL3 e ht;go_enter func133,ntmps133;go_wp2
  go_quiet (fail)
  go_wp2;go_ret;exact ⟨aA5 HF.out.symm,HB.drewN _⟩
 .have HF:Hid (aGg g c v port ⟨op,arg⟩=aD8 g op v port):=by
   show aGg g c v port ⟨op,arg⟩=_
   unfold aGg;dsimp only;rw [if_neg (by omega),if_neg (by omega),if_neg (by omega),if_neg (by omega),if_neg (by omega),if_neg (by omega)]
  have e1:(op==1)=false:=by simp;omega
  have e2:(op==2)=false:=by simp;omega
  have e3:(op==3)=false:=by simp;omega
  have e4:(op==4)=false:=by simp;omega
  have e5:(op==5)=false:=by simp;omega
  have e12:(op==12)=false:=by simp;omega
  have HG:=aA0 hs.gok;have HQ:=aA0 hq;have HBB:=aA0 hb;have HPP:=aA0 hp;clear hI hP hC hb hp har ha hq;go_enter func133,ntmps133
  go_wp2_with (go_at_call 151;refine (aTk _ g op v port b _ (HGV.out _ HB) HG.out hv HQ.out HBB.out HPP.out).mono ?_;rintro e w' ⟨rfl,hbb⟩;replace HB:=HB.trans hbb;clear hbb)
  go_ret;exact ⟨aA5 HF.out.symm,HB⟩
end Go.Proofs.YtdcjnhoabbdanaaGreatDoor

