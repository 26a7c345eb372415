/- Merged. -/
import Derived.Test.YtmoebklkkjbigaaGreatDoorZ39
set_option linter.unusedSimpArgs false
set_option linter.unnecessarySimpa false
set_option linter.unusedVariables false
set_option maxRecDepth 100000
set_option maxHeartbeats 4000000
open Go.Proofs.Tryz

namespace Go.Proofs.YtmoebklkkjbigaaGreatDoor
open Go.RowKit
theorem aSp (v:Value) (s:Spc) (A:Option Addr) (kc:Nat) (set:List Bool) (w:World) (h:aBk w v s) (hB:aEw w A s.arcs.length set) (hl:aCy s=true) (hwf:wfS s) (hv:aCf s=true) (hc:∀ k,k<s.arcs.length->set.getD k false=true->∀ a∈aA7 s.arcs k,set.getD (toK a) false=true) :
  Calls prog 19 #[v,.slice A s.arcs.length kc] w fun e w'=>e = .returned (.tuple #[.bool true,.int .i64 0])/\Bel w w':=by
 have HS:=aA0 (fun w' (k:Bel w w')=>h.keep k);obtain ⟨_,hle,h70⟩:=aB5 hl;obtain ⟨AE,cE,AA,cA,rfl,hE,hA,_,_,_,_⟩:=h;have HA:=aA0 (fun w' (k:Bel w w')=>hA.keep k);have HSET:=aA0 (fun w' (k:Bel w w')=>hB.keep k);have hsl:set.length=s.arcs.length:=hB.1;have HTO:=aA0 (aKo hv);have HEN:=aA0 (aBv hv).1;have HL:=aA0 hl;have HWF:=aA0 hwf;have HV:=aA0 hv;have HC:=aA0 hc
 have H70:Hid (∀ k,(aA7 s.arcs k).length<=70):=fun k=>by
  unfold aA7;rw [List.getD_eq_getElem?_getD];cases hx:s.arcs[k]? with
  | none=>simp
  | some l=>exact h70 l (List.mem_of_getElem? hx)
 clear hl hE hA hB hwf hv hc h70;obtain ⟨W0,hW0⟩:∃ W:World,W=w.alloc (.cells #[.slice AE s.enabled.length cE,.slice AA s.arcs.length cA] 42):=⟨_,rfl⟩;have HW0:Hid (Bel w W0):=by rw [hW0];exact (Bel.refl w).alloc _
 have HBX:Hid (Blk W0 w.heap.size #[.slice AE s.enabled.length cE,.slice AA s.arcs.length cA] 42):=by rw [hW0];exact Blk.new w _ _
 go_enter func19,ntmps19
 go_wp2_with (go_at_call 44;rw [<- hW0];refine (aNi _ s _ _ _ _ (HS.out _ HW0.out) HWF.out HL.out HV.out HEN.out).mono ?_;rintro e w1 ⟨rfl,hb⟩;have HB1:=aA0 (HW0.out.trans hb);have x0:=(HBX.out.keep hb).cell 0 (v := .slice AE s.enabled.length cE) rfl;have x1:=(HBX.out.keep hb).cell 1 (v := .slice AA s.arcs.length cA) rfl;have xl:=(HBX.out.keep hb).lt;clear hb)
 clear x0 x1 xl
 go_loopg [7,8,20] s.arcs.length (fun m _x _y z wr=>∃ k:Nat,k<=s.arcs.length/\m=s.arcs.length-k/\z = .int .i64 (k:Int)/\Hid (Bel w wr))
 case atStart=>exact ⟨0,by omega,rfl,rfl,HB1.out⟩
 case round =>
  obtain ⟨wo,rfl⟩:∃ wo:World,wo=wr:=⟨_,rfl⟩;obtain ⟨k,hk,rfl,rfl,HB⟩:=hrel
  by_cases hlt:k<s.arcs.length
  .have hd0:decide (k<s.arcs.length)=true:=by simpa using hlt
   obtain ⟨bB,oB,R,rc,rfl,hbB,y2,hR,_,_⟩:=(HA.out _ HB.out).at_ k hlt;have hark:s.arcs[k]=aA7 s.arcs k:=by simp [aA7,hlt]
   rw [hark] at y2 hR;have HR:=aA0 (fun w' (kk:Bel wo w')=>hR.keep kk);obtain ⟨bA,oA,rfl,hbA,a1⟩:=(HSET.out _ HB.out).at_ k (by rw [hsl];exact hlt)
   have hgs:set[k]'(by rw [hsl];exact hlt)=set.getD k false:=by simp [List.getD_eq_getElem?_getD,hsl,hlt]
   rw [hgs] at a1;have hJ:=H70.out k;clear hR hgs;cases hct:set.getD k false with
   | false =>
    rw [hct] at a1
    go_wp2_with fail
    go_roundg (s.arcs.length-(k+1))
    case rel=>exact ⟨k+1,by omega,rfl,by go_num,HB.out⟩
    case measure=>omega
   | true =>
    rw [hct] at a1;have HCK:=aA0 (HC.out k hlt hct);have HTK:=aA0 (HTO.out k)
    go_wp2_with fail
    clear a1 y2
    go_loopg [10,32] (aA7 s.arcs k).length (fun m _y z wr=>∃ j:Nat,j<=(aA7 s.arcs k).length/\m=(aA7 s.arcs k).length-j/\z = .int .i64 (j:Int)/\Hid (Bel wo wr))
    case atStart=>exact ⟨0,by omega,rfl,rfl,Bel.refl _⟩
    case round =>
     obtain ⟨j,hj,rfl,rfl,HJ⟩:=hrel
     by_cases hlt2:j<(aA7 s.arcs k).length
     .have hd1:decide (j<(aA7 s.arcs k).length)=true:=by simpa using hlt2
      obtain ⟨b2,o2,rfl,hb2,c0,c1⟩:=aAc.at_ (HR.out _ HJ.out) j hlt2;have hmem:=List.getElem_mem hlt2;obtain ⟨hx1,hx2⟩:=HTK.out _ hmem;have hx4:=HCK.out _ hmem;generalize (aA7 s.arcs k)[j]=x at *;have htK:x.2=((toK x:Nat):Int):=by unfold toK;omega
      have htl:toK x<s.arcs.length:=by unfold toK;omega
      rw [htK] at c1;have HX4:=aA0 hx4;clear htK hx1 hx2 hmem hx4;generalize toK x=t at *;generalize x.1=T at *;obtain ⟨bC,oC,eC,hbC,a2⟩:=(HSET.out _ (HB.out.trans HJ.out)).at_ t (by rw [hsl];exact htl)
      injection eC with eC
      injection eC with e1 e2
      subst e1;subst e2;have hgs2:set[t]'(by rw [hsl];exact htl)=set.getD t false:=by simp [List.getD_eq_getElem?_getD,hsl,htl]
      rw [hgs2,HX4.out] at a2;have htd:decide (t<s.arcs.length)=true:=by simpa using htl
      clear hgs2
      go_wp2_with fail
      go_roundg ((aA7 s.arcs k).length-(j+1))
      case rel=>exact ⟨j+1,by omega,rfl,by go_num,HJ.out.alloc _⟩
      case measure=>omega
     .obtain rfl:j=(aA7 s.arcs k).length:=by omega
      have hd1:decide ((aA7 s.arcs k).length<(aA7 s.arcs k).length)=false:=by simp
      go_wp2_with fail
      go_roundg (s.arcs.length-(k+1))
      case rel=>exact ⟨k+1,by omega,rfl,by go_num,HB.out.trans HJ.out⟩
      case measure=>omega
  .obtain rfl:k=s.arcs.length:=by omega
   have hd0:decide (s.arcs.length<s.arcs.length)=false:=by simp
   go_wp2_with fail
   refine bodyPost_ret (v := .tuple #[.bool true,.int .i64 0]) (by simp [results,Tryz.results19]) rfl ⟨rfl,HB.out⟩
end Go.Proofs.YtmoebklkkjbigaaGreatDoor

