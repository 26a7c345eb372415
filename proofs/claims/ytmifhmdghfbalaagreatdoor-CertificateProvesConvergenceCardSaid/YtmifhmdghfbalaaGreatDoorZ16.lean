/- Merged. -/
import Derived.Test.YtmifhmdghfbalaaGreatDoorZ14
set_option linter.unusedSimpArgs false
set_option linter.unnecessarySimpa false
set_option linter.unusedVariables false
set_option maxRecDepth 100000
set_option maxHeartbeats 2000000
open Go.Proofs.Tryz

namespace Go.Proofs.YtmifhmdghfbalaaGreatDoor
open Go.RowKit
def aZ7 (p:Prg) (g:Graph) (c:aA8) (v:Int) (e:List Term):Int × Int :=
 if aCp p g c≠0 then (0,aCp p g c) else if ¬ (0<=v/\v<=(c.length:Int)-1) then (0,2)
 else if (ofF e (aAx p) false).2≠0 then (0,(ofF e (aAx p) false).2) else (aAw g c v.toNat (-1) (aAm e),0)
theorem aBn {p:Prg} {g:Graph} {c:aA8} (h:aCp p g c=0):aCf p g=0/\aJd (aAa p g) c=true:=by
 unfold aCp at h;split at h
 .rename_i h1;exact absurd h h1
 .rename_i h1
  split at h
  .cases h
  .rename_i h2;exact ⟨by simpa using h1,by simpa using h2⟩
theorem aKr {p:Prg} {g:Graph} {c:aA8} (h:aCp p g c=0) {v:Nat} (hv:v<c.length):SOK p g c v:=by
 obtain ⟨h1,h2⟩:=aBn h;refine ⟨h1,h2,?_⟩
 have:=(aCy.1 h2).1;rw [aAj,(aAe h1).2.1.ids] at this;omega
theorem bMj {e:List Term} {kinds:List Int} {b:Bool} (h:(ofF e kinds b).2=0):aB8 e kinds.length=true/\aBc kinds b (aAm e)≠0/\(ofF e kinds b).1=aBc kinds b (aAm e):=by
 unfold ofF at *;split at h
 .cases h
 .rename_i h1
  rw [if_neg h1];split at h
  .cases h
  .rename_i h2
   rw [if_neg h2];split at h
   .cases h
   .rename_i h3
    rw [if_neg h3];split at h
    .cases h
    .rename_i h4
     rw [if_neg h4];exact ⟨by simpa using h3,h4,rfl⟩
theorem aE6 {g:Graph} {v:Nat} {port:Int}:aIc g v false port:=fun h=>by cases h
theorem aYt (v1:Value) (p:Prg) (v2:Value) (g:Graph) (v3:Value) (c:aA8) (v:Int) (A:Option Addr) (ce:Nat) (es:List Term) (w:World) (h:aE0 w v1 p) (h2:aAl w v2 g) (h3:aDf w v3 c) (hT:aAr w A es.length es) (hL:aAt p=true) (hG:aB3 g=true) (hC:aE1 c=true) (hlen:es.length<=1000) :
  Calls prog 56 #[v1,v2,v3,.int .i64 v,.slice A es.length ce] w fun e w'=>e = .returned (.tuple #[.int .i64 (aZ7 p g c v es).1,.int .i64 (aZ7 p g c v es).2])/\Bel w w':=by
 have HPV:=aA1 (fun w' (k:Bel w w')=>h.keep k);have HGV:=aA1 (fun w' (k:Bel w w')=>h2.keep k);have HCV:=aA1 (fun w' (k:Bel w w')=>h3.keep k);have HT:=aA1 (fun w' (k:Bel w w')=>aAr.keep hT k);obtain ⟨A1,k1,A2,k2,rfl,_,_,_,_,_,_⟩:=h;obtain ⟨A3,k3,A4,k4,rfl,_,_,_,_,_,_⟩:=h2;obtain ⟨A5,k5,rfl,_,_,_⟩:=h3;have HL:=aA1 hL;have HGL:=aA1 hG;have HCL:=aA1 hC;have hc30:=(aFg hC).1;have hp10:=(aAi hL).2.1;clear hL hG hC hT;have HF:Hid (aZ7 p g c v es=if aCp p g c≠0 then (0,aCp p g c) else if ¬ (0<=v/\v<=(c.length:Int)-1) then (0,2) else if (ofF es (aAx p) false).2≠0 then (0,(ofF es (aAx p) false).2) else (aAw g c v.toNat (-1) (aAm es),0)):=rfl
 have HW:=Bel.refl ((w.alloc (.cells #[.string p.name,.slice A1 p.vars.length k1,.slice A2 p.rules.length k2] 25)).alloc (.cells #[.slice A3 g.ids.length k3,.slice A4 g.ports.length k4] 29))
 by_cases hm:aCp p g c=0
 .rw [if_neg (by simpa using hm)] at HF
  have HM:=aA1 hm;clear hm
  by_cases hv:0<=v/\v<=(c.length:Int)-1
  .rw [if_neg (by simpa using hv)] at HF
   obtain ⟨q,rfl⟩:=Int.eq_ofNat_of_zero_le hv.1;rw [Int.toNat_natCast] at HF;have hq:q<c.length:=by omega
   have hin:inB (q:Int) 0 ((c.length:Int)-1)=true:=aEi hv.1 hv.2
   by_cases ho:(ofF es (aAx p) false).2=0
   .rw [if_neg (by simpa using ho)] at HF
    have hob:((ofF es (aAx p) false).2 != 0)=false:=by simpa using ho
    obtain ⟨o1,o2,_⟩:=bMj ho;obtain ⟨t1,t2,_,t4,_,_⟩:=aDi o1;have HS:=aA1 (aKr HM.out hq);have HAT:=aA1 (At.whole t1 t2);rw [aDl] at t4;have HT4:=aA1 t4;have HBO:=aA1 (aLi o2);clear ho o1 o2 t1 t2 t4 hv;go_enter func56,ntmps56
    go_wp2_with (first
     | (go_at_call 104;refine (aBb _ p _ g _ c _ (HPV.out _ (aA0 HW)) (HGV.out _ (aA0 HW)) (HCV.out _ (aA0 HW)) HL.out HGL.out HCL.out).mono ?_;rintro e w' ⟨rfl,hb⟩;rw [HM.out];replace HW:=HW.trans hb;clear hb;obtain ⟨p0,p1,p2,g0,g1,gsz⟩:=aA6 HW)
     | (go_at_call 110;refine (aBs _ _ _ _).mono ?_;rintro e w' ⟨rfl,rfl⟩)
     | (go_at_call 100;refine (aGu _ p _ (HPV.out _ (aA0 HW)) (by omega)).mono ?_;rintro e w' ⟨KA,kc,rfl,hK,_,_,hb⟩;have HK:=aA1 hK;replace HW:=HW.trans hb;clear hb hK p0 p1 p2 g0 g1 gsz;obtain ⟨p0,p1,p2,g0,g1,gsz⟩:=aA6 HW)
     | (go_at_call 99;refine (aNv _ _ es _ _ (aAx p) _ _ (HT.out _ (aA0 HW)) HK.out hlen).mono ?_;rintro e w' ⟨rfl,hb⟩;replace HW:=HW.trans hb;clear hb p0 p1 p2 g0 g1 gsz;obtain ⟨p0,p1,p2,g0,g1,gsz⟩:=aA6 HW)
     | (go_at_call 111;refine (aWi p g c q HS.out (aAm es) false (-1) _ _ _ _ es 0 _ (HGV.out _ (aA0 HW)) (HCV.out _ (aA0 HW)) (HT.out _ (aA0 HW)) HAT.out HT4.out hlen HBO.out aE6).mono ?_;rintro e w' ⟨rfl,hb⟩;replace HW:=HW.trans hb;clear hb))
    go_ret2
    rw [HF.out];exact ⟨rfl,aA0 HW⟩
   .rw [if_pos ho] at HF
    have hob:((ofF es (aAx p) false).2 != 0)=true:=by simpa using ho
    clear ho hv;go_enter func56,ntmps56
    go_wp2_with (first
     | (go_at_call 104;refine (aBb _ p _ g _ c _ (HPV.out _ (aA0 HW)) (HGV.out _ (aA0 HW)) (HCV.out _ (aA0 HW)) HL.out HGL.out HCL.out).mono ?_;rintro e w' ⟨rfl,hb⟩;rw [HM.out];replace HW:=HW.trans hb;clear hb;obtain ⟨p0,p1,p2,g0,g1,gsz⟩:=aA6 HW)
     | (go_at_call 110;refine (aBs _ _ _ _).mono ?_;rintro e w' ⟨rfl,rfl⟩)
     | (go_at_call 100;refine (aGu _ p _ (HPV.out _ (aA0 HW)) (by omega)).mono ?_;rintro e w' ⟨KA,kc,rfl,hK,_,_,hb⟩;have HK:=aA1 hK;replace HW:=HW.trans hb;clear hb hK p0 p1 p2 g0 g1 gsz;obtain ⟨p0,p1,p2,g0,g1,gsz⟩:=aA6 HW)
     | (go_at_call 99;refine (aNv _ _ es _ _ (aAx p) _ _ (HT.out _ (aA0 HW)) HK.out hlen).mono ?_;rintro e w' ⟨rfl,hb⟩;replace HW:=HW.trans hb;clear hb p0 p1 p2 g0 g1 gsz))
    go_ret2
    rw [HF.out];exact ⟨rfl,aA0 HW⟩
  .rw [if_pos hv] at HF
   have hin:inB v 0 ((c.length:Int)-1)=false:=aHr (by omega)
   clear hv;go_enter func56,ntmps56
   go_wp2_with (first
    | (go_at_call 104;refine (aBb _ p _ g _ c _ (HPV.out _ (aA0 HW)) (HGV.out _ (aA0 HW)) (HCV.out _ (aA0 HW)) HL.out HGL.out HCL.out).mono ?_;rintro e w' ⟨rfl,hb⟩;rw [HM.out];replace HW:=HW.trans hb;clear hb;obtain ⟨p0,p1,p2,g0,g1,gsz⟩:=aA6 HW)
    | (go_at_call 110;refine (aBs _ _ _ _).mono ?_;rintro e w' ⟨rfl,rfl⟩))
   go_ret2
   rw [HF.out];exact ⟨rfl,aA0 HW⟩
 .rw [if_pos hm] at HF
  have hmb:(aCp p g c != 0)=true:=by simpa using hm
  clear hm;go_enter func56,ntmps56
  go_wp2_with (go_at_call 104;refine (aBb _ p _ g _ c _ (HPV.out _ (aA0 HW)) (HGV.out _ (aA0 HW)) (HCV.out _ (aA0 HW)) HL.out HGL.out HCL.out).mono ?_;rintro e w' ⟨rfl,hb⟩;replace HW:=HW.trans hb;clear hb)
  go_ret2
  rw [HF.out];exact ⟨rfl,aA0 HW⟩
theorem bDg {p:Prg} (hc:aBm p=0) {r:Rule} (hr:r∈p.rules):(aAm r.guard).ok/\(aAm r.guard).terms=r.guard/\(∀ t∈r.guard,aHz t p.vars.length=true)/\aBd false (aAm r.guard):=by
 obtain ⟨_,_,_,_,_,h1,h2⟩:=aB6 hc;obtain ⟨t1,t2,_,t4,_,_⟩:=aDi (h1 r hr).guard;refine ⟨t1,t2,t4,aLi (kinds:=aAx p) ?_⟩
 have:=h2 r hr;unfold aCt at this;simp at this
 rw [this.1];omega
end Go.Proofs.YtmifhmdghfbalaaGreatDoor


