/- Merged. -/
import Derived.Test.YtmoebklkkjbigaaGreatDoorZ39
set_option linter.unusedSimpArgs false
set_option linter.unnecessarySimpa false
set_option linter.unusedVariables false
set_option maxRecDepth 100000
set_option maxHeartbeats 4000000
open Go.Proofs.Tryz

namespace Go.Proofs.YtmoebklkkjbigaaGreatDoor
open Go.RowKit
structure MkI (W0 wm:World) (n gr:Nat) (r:List Bool) (wr:World):Prop where
 bel:Bel W0 wr
 agr:Agr (fun q=>q=gr∨wm.heap.size<=q) wm wr
 res:wr.ownsRow W0.heap.size 4 1 (.slice (some ⟨gr,0,none⟩) n n) n (r.map Value.bool)
 len:r.length=n
theorem MkI.put {W0 wm:World} {n gr:Nat} {r:List Bool} {wr:World} (h:MkI W0 wm n gr r wr) (k:Nat) (x:Bool):MkI W0 wm n gr (r.set k x) (wr.setCell ⟨gr,k,none⟩ (.bool x)):=by
 have hb:=aAa h.res;refine ⟨h.bel.setCell hb.1 _,h.agr.trans (Agr.setCell _ _ _ (.inl rfl)),?_,by rw [List.length_set];exact h.len⟩
 have:=(h.res.stored k (.bool x)).1;rw [List.map_set];exact this
theorem MkI.at_ {W0 wm:World} {n gr:Nat} {r:List Bool} {wr:World} (h:MkI W0 wm n gr r wr) {k:Nat} (hk:k<n):wr.cell? ⟨gr,k,none⟩=some (.bool (r.getD k false))/\wr.frozen? ⟨gr,k,none⟩=false/\gr<wr.heap.size:=by
 obtain ⟨g,e,_,h1,h2,h3⟩:=aAj h.res (j:=k) (u := .bool (r.getD k false)) (by simp [List.getD_eq_getElem?_getD,h.len,hk])
 obtain rfl:gr=g:=by simpa using e
 exact ⟨h2,h3,h1⟩
theorem aPu (r:List Bool) (k j:Nat) (x:Bool) (hk:k<r.length):(r.set k x).getD j false=if k=j then x else r.getD j false:=by
 by_cases e:k=j
 .subst e;simp [List.getD_eq_getElem?_getD,hk]
 .rw [if_neg e];simp [List.getD_eq_getElem?_getD,List.getElem?_set_ne e]
theorem aU1 (v:Value) (s:Spc) (A:Option Addr) (kc:Nat) (set:List Bool) (w:World) (h:aBk w v s) (hB:aEw w A s.arcs.length set) (hl:aCy s=true) (hwf:wfS s) (hv:aCf s=true) :
  Calls prog 39 #[v,.slice A s.arcs.length kc] w fun e w'=>∃ (o:List Nat) (r:List Bool) (gr:Nat),e = .returned (.tuple #[.slice (some ⟨gr,0,none⟩) s.arcs.length s.arcs.length,.int .i64 0])/\OrdP s.arcs set s.arcs.length o/\r.length=s.arcs.length/\(∀ k,k<s.arcs.length->r.getD k false=decide (k∈o))/\w'.ownsRow (w.heap.size+1) 4 1 (.slice (some ⟨gr,0,none⟩) s.arcs.length s.arcs.length) s.arcs.length (r.map Value.bool)/\Bel w w':=by
 have HS:=aA0 (fun w' (k:Bel w w')=>h.keep k);have hle:=(aB5 hl).2.1;obtain ⟨AE,cE,AA,cA,rfl,hE,hA,_,_,_,_⟩:=h;have HSET:=aA0 (fun w' (k:Bel w w')=>hB.keep k);have HTO:=aA0 (aKo hv);have HEN:=aA0 (aBv hv).1;have HL:=aA0 hl;have HWF:=aA0 hwf;have HV:=aA0 hv;clear hl hE hA hB hwf hv;obtain ⟨j0,hj0,hj1,hj2,hj3⟩:=aBq aK7;obtain ⟨W0,hW0⟩:∃ W:World,W=w.alloc (.cells #[.slice AE s.enabled.length cE,.slice AA s.arcs.length cA] 42):=⟨_,rfl⟩;have e0:W0.heap.size=w.heap.size+1:=by rw [hW0];exact World.size_alloc _ _
 have HW0:Hid (Bel w W0):=by rw [hW0];exact (Bel.refl w).alloc _
 have HBX:Hid (Blk W0 w.heap.size #[.slice AE s.enabled.length cE,.slice AA s.arcs.length cA] 42):=by rw [hW0];exact Blk.new w _ _
 go_enter func39,ntmps39
 go_wp2_with (first
  | (go_at_call 44;rw [<- hW0];refine (aNi _ s _ _ _ _ (HS.out _ HW0.out) HWF.out HL.out HV.out HEN.out).mono ?_;rintro e w1 ⟨rfl,hb⟩;have HB1:=aA0 hb;have x0:=(HBX.out.keep hb).cell 0 (v := .slice AE s.enabled.length cE) rfl;have x1:=(HBX.out.keep hb).cell 1 (v := .slice AA s.arcs.length cA) rfl;have xl:=(HBX.out.keep hb).lt;have hw1:=hb.size;clear hb)
  | (at_make;refine aB7 _ rfl 45 (.tmp 17) (.tmp 17) rfl W0.heap.size 4 j0 (.bool false) 1 underlying45 hj0 hj1 hj2 .i64 .i64 s.arcs.length rfl rfl (by rw [hj3];omega) (by unfold maxLen;omega) hw1 ?_;intro gr wm hown hb;rw [aB3 _ rfl] at hown;have HR:=aA0 hown;have HBm:=aA0 (HB1.out.trans hb);clear x0 x1 xl;have x0:=(HBX.out.keep HBm.out).cell 0 (v := .slice AE s.enabled.length cE) rfl;have x1:=(HBX.out.keep HBm.out).cell 1 (v := .slice AA s.arcs.length cA) rfl;have xl:=(HBX.out.keep HBm.out).lt;clear hown hb)
  | (go_at_call 88;refine (aSr _ s _ _ set _ (HS.out _ (HW0.out.trans HBm.out)) (HSET.out _ (HW0.out.trans HBm.out)) HL.out HTO.out).mono ?_;rintro e w2 ⟨o,Ao,co,rfl,ho,hown,hb⟩;have HO:=aA0 ho;have HOW:=aA0 hown;have HB2:=aA0 hb;clear ho hown hb))
 have hol:=HO.out.len;have hI:MkI W0 w2 s.arcs.length gr (List.replicate s.arcs.length false) w2:=⟨HBm.out.trans HB2.out,Agr.refl _ _,by rw [List.map_replicate];exact HB2.out.owns HR.out,by simp⟩
 have hgr:=(aAa HR.out).2
 have HOl:Hid (∀ q,(Value.slice Ao o.length co).ownBlock=some q->q≠gr/\q<w2.heap.size):=fun q hq=>by
  obtain ⟨h1,h2⟩:=HOW.out.lt q hq;exact ⟨by omega,h2⟩
 clear HR
 go_loopg [9,23] o.length (fun m _x z wr=>∃ (i:Nat) (r:List Bool),i<=o.length/\m=o.length-i/\z = .int .i64 (i:Int)/\Hid (MkI W0 w2 s.arcs.length gr r wr)/\Hid (∀ k,k<s.arcs.length->r.getD k false=decide (k∈o.take i)))
 case atStart=>exact ⟨0,_,by omega,rfl,rfl,hI,fun k hk=>by simp [List.getD_eq_getElem?_getD,hk]⟩
 case round =>
  clear hI;obtain ⟨i,r,hi,rfl,rfl,HI,HC⟩:=hrel
  by_cases hlt:i<o.length
  .have hd0:decide (i<o.length)=true:=by simpa using hlt
   have hkn:o[i]<s.arcs.length:=HO.out.lt _ (List.getElem_mem hlt);obtain ⟨g0,rfl,_,l0,c0,_⟩:=aAj (aBi HOW.out HI.out.agr (fun q hq e=>by have:=HOl.out q hq;omega)) (j:=i) (u:=aPq o[i]) (by simp [hlt])
   unfold aPq at c0;have hti:=aA0 (List.take_succ_eq_append_getElem hlt);generalize o[i]=k at *;have hkd:decide (k<s.arcs.length)=true:=by simpa using hkn
   obtain ⟨r1,r2,r3⟩:=HI.out.at_ hkn;generalize hrk:r.getD k false=b at r1;clear hrk
   go_wp2_with fail
   go_roundg (o.length-(i+1))
   case rel =>
    refine ⟨i+1,r.set k true,by omega,rfl,by go_num,HI.out.put k true,fun j hj=>?_⟩
    rw [aPu _ _ _ _ (by rw [HI.out.len];exact hkn),HC.out j hj,hti.out]
    by_cases e:k=j
    .subst e;simp
    .rw [if_neg e];simp [Ne.symm e]
   case measure=>omega
  .obtain rfl:i=o.length:=by omega
   have hd0:decide (o.length<o.length)=false:=by simp
   go_wp2_with fail
   refine bodyPost_ret (v := .tuple #[.slice (some ⟨gr,0,none⟩) s.arcs.length s.arcs.length,.int .i64 0]) (by simp [results,Tryz.results39]) rfl ?_
   exact ⟨o,r,gr,rfl,HO.out,HI.out.len,fun k hk=>by rw [HC.out k hk,List.take_length],by rw [<- e0];exact HI.out.res,HW0.out.trans HI.out.bel⟩
theorem bCc (v:Value) (s:Spc) (A:Option Addr) (kc:Nat) (set:List Bool) (w:World) (h:aBk w v s) (hB:aEw w A s.arcs.length set) (hl:aCy s=true) (hwf:wfS s) (hv:aCf s=true) :
  Calls prog 13 #[v,.slice A s.arcs.length kc] w fun e w'=>∃ (o:List Nat) (r:List Bool) (gr:Nat),e = .returned (.tuple #[.slice (some ⟨gr,0,none⟩) s.arcs.length s.arcs.length,.int .i64 0])/\OrdP s.arcs set s.arcs.length o/\r.length=s.arcs.length/\(∀ k,k<s.arcs.length->r.getD k false = !decide (k∈o))/\w'.ownsRow (w.heap.size+1) 4 1 (.slice (some ⟨gr,0,none⟩) s.arcs.length s.arcs.length) s.arcs.length (r.map Value.bool)/\Bel w w':=by
 have HS:=aA0 (fun w' (k:Bel w w')=>h.keep k);have hle:=(aB5 hl).2.1;obtain ⟨AE,cE,AA,cA,rfl,hE,hA,_,_,_,_⟩:=h;have HSET:=aA0 (fun w' (k:Bel w w')=>hB.keep k);have HL:=aA0 hl;have HWF:=aA0 hwf;have HV:=aA0 hv;clear hl hE hA hB hwf hv;obtain ⟨W0,hW0⟩:∃ W:World,W=w.alloc (.cells #[.slice AE s.enabled.length cE,.slice AA s.arcs.length cA] 42):=⟨_,rfl⟩;have e0:W0.heap.size=w.heap.size+1:=by rw [hW0];exact World.size_alloc _ _
 have HW0:Hid (Bel w W0):=by rw [hW0];exact (Bel.refl w).alloc _
 go_enter func13,ntmps13
 go_wp2_with (go_at_call 39;rw [<- hW0];refine (aU1 _ s _ _ set _ (HS.out _ HW0.out) (HSET.out _ HW0.out) HL.out HWF.out HV.out).mono ?_;rintro e w1 ⟨o,r0,gr,rfl,ho,hr,hrk,hown,hb⟩;have HO:=aA0 ho;have HOW:=aA0 hown;have HB1:=aA0 hb;have HK:=aA0 hrk;clear ho hown hb hrk)
 have hI:MkI W0 w1 s.arcs.length gr r0 w1:=⟨HB1.out,Agr.refl _ _,aAu HOW.out (by omega),hr⟩
 clear HOW
 go_loopg [8,20] s.arcs.length (fun m _x z wr=>∃ (i:Nat) (r:List Bool),i<=s.arcs.length/\m=s.arcs.length-i/\z = .int .i64 (i:Int)/\Hid (MkI W0 w1 s.arcs.length gr r wr)/\Hid (∀ k,k<s.arcs.length->r.getD k false=if k<i then !decide (k∈o) else decide (k∈o)))
 case atStart=>exact ⟨0,_,by omega,rfl,rfl,hI,fun k hk=>by rw [HK.out k hk,if_neg (by omega)]⟩
 case round =>
  clear hI;obtain ⟨i,r,hi,rfl,rfl,HI,HC⟩:=hrel
  by_cases hlt:i<s.arcs.length
  .have hd0:decide (i<s.arcs.length)=true:=by simpa using hlt
   obtain ⟨r1,r2,r3⟩:=HI.out.at_ hlt;have hci:=HC.out i hlt;rw [if_neg (by omega)] at hci
   rw [hci] at r1;obtain ⟨b,hb⟩:∃ b,b=decide (i∈o):=⟨_,rfl⟩;rw [<- hb] at r1;have HBB:=aA0 hb;clear hb hci
   go_wp2_with fail
   go_roundg (s.arcs.length-(i+1))
   case rel =>
    refine ⟨i+1,r.set i (!b),by omega,rfl,by go_num,HI.out.put i (!b),fun j hj=>?_⟩
    rw [aPu _ _ _ _ (by rw [HI.out.len];exact hlt),HC.out j hj,HBB.out]
    by_cases e:i=j
    .subst e;rw [if_pos rfl,if_pos (by omega)]
    .rw [if_neg e]
     by_cases h2:j<i
     .rw [if_pos h2,if_pos (by omega)]
     .rw [if_neg h2,if_neg (by omega)]
   case measure=>omega
  .obtain rfl:i=s.arcs.length:=by omega
   have hd0:decide (s.arcs.length<s.arcs.length)=false:=by simp
   go_wp2_with fail
   refine bodyPost_ret (v := .tuple #[.slice (some ⟨gr,0,none⟩) s.arcs.length s.arcs.length,.int .i64 0]) (by simp [results,Tryz.results13]) rfl ?_
   exact ⟨o,r,gr,rfl,HO.out,HI.out.len,fun k hk=>by rw [HC.out k hk,if_pos hk],by rw [<- e0];exact HI.out.res,HW0.out.trans HI.out.bel⟩
end Go.Proofs.YtmoebklkkjbigaaGreatDoor

