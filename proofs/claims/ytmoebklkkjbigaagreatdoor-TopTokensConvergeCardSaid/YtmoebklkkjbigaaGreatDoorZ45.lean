/- Merged. -/
import Derived.Test.YtmoebklkkjbigaaGreatDoorZ41
set_option linter.unusedSimpArgs false
set_option linter.unnecessarySimpa false
set_option linter.unusedVariables false
set_option maxRecDepth 100000
set_option maxHeartbeats 4000000
open Go.Proofs.Tryz

namespace Go.Proofs.YtmoebklkkjbigaaGreatDoor
open Go.RowKit
theorem aLa (v:Value) (s:Spc) (A:Option Addr) (kc:Nat) (set:List Bool) (w:World) (h:aBk w v s) (hB:aEw w A s.arcs.length set) (hl:aCy s=true) (hwf:wfS s) (hv:aCf s=true) (hall:∀ o,OrdP s.arcs set s.arcs.length o->s.arcs.length<=o.length)
  (f:Nat->Int) (hf1:CostP s.arcs set s.arcs.length (fun _=>1) f) (hf2:CostP s.arcs set s.arcs.length (fun x=>((aAd x.1).length:Int)) f) (G:Nat->Nat->Prop) (fr:Nat->Nat->Int) (h16:∀ k,s.enabled.getD k 0<16) (hr:RndP s.arcs s.enabled set s.arcs.length G fr) :
  Calls prog 20 #[v,.slice A s.arcs.length kc] w fun e w'=>∃ (A0:Option Addr) (c0:Nat) (r1:List Int) (A1:Option Addr) (c1:Nat) (r2:List Int) (A2:Option Addr) (c2:Nat),e = .returned (.tuple #[.slice A0 s.arcs.length c0,.slice A1 s.arcs.length c1,.slice A2 s.arcs.length c2,.bool true])/\r1.length=s.arcs.length/\r2.length=s.arcs.length /\
   (∀ k,k<s.arcs.length->r1.getD k 0<=f k)/\(∀ k,k<s.arcs.length->r2.getD k 0<=if set.getD k false then 0 else fr k (s.enabled.getD k 0)) /\
   w'.ownsRow (w.heap.size+1) 3 1 (.slice A1 s.arcs.length c1) s.arcs.length (r1.map (Value.int .i64))/\w'.ownsRow (w.heap.size+1) 3 1 (.slice A2 s.arcs.length c2) s.arcs.length (r2.map (Value.int .i64))/\Bel w w':=by
 have HS:=aA0 (fun w' (k:Bel w w')=>h.keep k);have HSET:=aA0 (fun w' (k:Bel w w')=>hB.keep k);obtain ⟨AE,cE,AA,cA,rfl,_,_,_,_,_,_⟩:=h;have HL:=aA0 hl;have HWF:=aA0 hwf;have HV:=aA0 hv;have HALL:=aA0 hall;have HF1:=aA0 hf1;have HF2:=aA0 hf2;have H16:=aA0 h16;have HR:=aA0 hr;clear hB hl hwf hv hall hf1 hf2 h16 hr;have HB0:=aA0 ((Bel.refl w).alloc (.cells #[.slice AE s.enabled.length cE,.slice AA s.arcs.length cA] 42));have HX:=aA0 (Blk.new w #[.slice AE s.enabled.length cE,.slice AA s.arcs.length cA] 42);go_enter func20,ntmps20
 go_wp2_with (first
  | (go_at_call 45;go_must (refine (aSk _ s A kc set _ (HS.out _ HB0.out) (HSET.out _ HB0.out) HL.out HWF.out HV.out HALL.out f HF1.out).mono ?_;rintro e w1 ⟨r0,A0,c0,rfl,_,_,_,hb⟩;have HB1:=aA0 (HB0.out.trans hb);have HX1:=aA0 (HX.out.keep hb);have x0:=HX1.out.cell 0 (v := .slice AE s.enabled.length cE) rfl;have x1:=HX1.out.cell 1 (v := .slice AA s.arcs.length cA) rfl;have xl:=HX1.out.lt;clear hb))
  | (go_at_call 31;go_must (refine (aLc _ s A kc set _ (HS.out _ HB1.out) (HSET.out _ HB1.out) HL.out HWF.out HV.out HALL.out f HF2.out).mono ?_;rintro e w2 ⟨r1,A1,c1,rfl,hr1,hb1,ho1,hb⟩;have HB2:=aA0 (HB1.out.trans hb);have HX2:=aA0 (HX1.out.keep hb);have HO1:=aA0 (aAu ho1 (Nat.succ_le_succ HB1.out.size));have HR1:=aA0 hr1;have HN1:=aA0 hb1;clear x0 x1 xl;have x0:=HX2.out.cell 0 (v := .slice AE s.enabled.length cE) rfl;have x1:=HX2.out.cell 1 (v := .slice AA s.arcs.length cA) rfl;have xl:=HX2.out.lt;clear hb ho1 hr1 hb1))
  | (go_at_call 32;go_must (refine (aT9 _ s A kc set _ (HS.out _ HB2.out) (HSET.out _ HB2.out) HL.out HWF.out HV.out HALL.out G fr H16.out HR.out).mono ?_;rintro e w3 ⟨r2,A2,c2,rfl,hr2,hb2,ho2,hb⟩;have HB3:=aA0 (HB2.out.trans hb);have HO12:=aA0 (hb.owns HO1.out);have HO2:=aA0 (aAu ho2 (Nat.succ_le_succ HB2.out.size));have HR2:=aA0 hr2;have HN2:=aA0 hb2;clear hb ho2 hr2 hb2)))
 refine bodyPost_ret (v := .tuple #[.slice A0 s.arcs.length c0,.slice A1 s.arcs.length c1,.slice A2 s.arcs.length c2,.bool true]) (by simp [results,Tryz.results20]) rfl ?_
 exact ⟨A0,c0,r1,A1,c1,r2,A2,c2,rfl,HR1.out,HR2.out,fun k hk=>(HN1.out k hk).2,fun k hk=>(HN2.out k hk).2,HO12.out,HO2.out,HB3.out⟩
end Go.Proofs.YtmoebklkkjbigaaGreatDoor

