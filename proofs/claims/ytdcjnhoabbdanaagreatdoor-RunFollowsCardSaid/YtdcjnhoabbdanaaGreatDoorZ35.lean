/- Merged. -/
import Derived.Test.YtdcjnhoabbdanaaGreatDoorZ34
import Derived.Test.YtdcjnhoabbdanaaGreatDoorZ33
set_option linter.unusedSimpArgs false
set_option linter.unnecessarySimpa false
set_option linter.unusedVariables false
set_option maxRecDepth 100000
set_option maxHeartbeats 4000000
open Go.Proofs.Tryz

namespace Go.Proofs.YtdcjnhoabbdanaaGreatDoor
open Go.RowKit
def aQ9 (B:Nat) (A:Option Addr) (cn:Nat) (g:Graph) (kind:Int) (fs:FuncId) (capsS:Array Value):Array Value :=
 #[.pointer (some ⟨B,0,none⟩),.slice A g.ports.length cn,.int .i64 kind,.int .u32 (aFr g.ports.length (fun _=>true):Nat),.func (.func fs) #[] capsS]
theorem aSy (rb wb B:Nat) (A:Option Addr) (cn:Nat) (g:Graph) (kind:Int) (fs:FuncId) (capsS:Array Value) (Aw:Option Addr) (c:Nat) (l:List Nat) (i E:Nat) (w:World) (hR:Blk w rb (aQ9 B A cn g kind fs capsS) 69)
  (hB:Boxed w wb 31 (.slice Aw l.length c)) (hM:aAd w Aw l.length l) (hi:i<l.length) (hl:∀ s∈l,s<4294967296) (hN:aMb w A g) (hT:aDg w) (hg:GOK g) (hE:E<2 ^ g.ports.length) :
  Calls prog 70 #[.int .i64 (i:Int),.int .u32 (E:Int),.pointer (some ⟨rb,0,none⟩),.pointer (some ⟨wb,0,none⟩)] w fun e w'=>e = .returned (.tuple #[.int .u32 (aAl g kind E (l.getD i 0):Nat),.bool (decide (E≠0))])/\Bel w w':=by
 obtain ⟨b,o,rfl,hb,hc⟩:=hM.at_ i hi;rw [aAa hi];have hS:=hl _ (List.getElem_mem hi);have hd:decide (i<l.length)=true:=by simpa using hi
 have HB:=Bel.refl w;have hbe:((E:Int) != 0)=decide (E≠0):=by rw [Bool.eq_iff_iff];simp
 have HBE:=aA0 hbe;have HNT:=aA0 (fun w' (k:Bel w w')=>And.intro (hN.keep k) (hT.keep k));have HG:=aA0 hg;have HE:=aA0 hE
 have hcell:=aA0 (fun w' (k:Bel w w')=>show w'.cell? ⟨rb,1,none⟩=some (.slice A g.ports.length cn)/\w'.cell? ⟨rb,2,none⟩=some (.int .i64 kind)/\w'.cell? ⟨wb,0,none⟩=some (.slice (some ⟨b,o,none⟩) l.length c)/\w'.cell? ⟨b,o+i,none⟩=some (.int .u32 (l[i]:Nat))/\rb<w'.heap.size/\wb<w'.heap.size/\b<w'.heap.size from
  ⟨(hR.keep k).cell 1 rfl,(hR.keep k).cell 2 rfl,(k.cell hB.lt).trans hB.cell,(k.cell hb).trans hc,(hR.keep k).lt,Nat.lt_of_lt_of_le hB.lt k.size,Nat.lt_of_lt_of_le hb k.size⟩)
 clear hR hB hM hN hT hg hE hc hbe hb hl;generalize l[i]=S at *;go_enter func70,ntmps70
 go_wp2_with fail
 replace HB:=HB.drew
 go_region_held3 (fun w'=>w'.cell? ⟨rb,1,none⟩=some (.slice A g.ports.length cn)/\w'.cell? ⟨rb,2,none⟩=some (.int .i64 kind)/\w'.cell? ⟨wb,0,none⟩=some (.slice (some ⟨b,o,none⟩) l.length c)/\w'.cell? ⟨b,o+i,none⟩=some (.int .u32 (S:Nat))/\rb<w'.heap.size/\wb<w'.heap.size/\b<w'.heap.size) (exact hcell.out _ HB) (first
  | (go_simp;go_at_call 71;refine (aTm A cn g kind E S _ (HNT.out _ HB).1 (HNT.out _ HB).2 HG.out HE.out hS).mono ?_;rintro e w2 ⟨rfl,hb2⟩;replace HB:=HB.trans hb2;clear hb2))
 go_wp2_with fail
 go_ret2
 exact ⟨by rw [HBE.out];rfl,HB⟩
def aNz:Array Value:=#[.slice none 0 0,.slice none 0 0,.slice none 0 0,.int .i64 0,.int .i64 0,.int .i64 0,.int .i64 0,.int .u32 0]
section
variable {Inv:(Nat->Prop)->List (Value × Trc)->World->Prop}
theorem RetRun.laid {N0:Nat} {f:FuncId} {caps:Array Value} {cv:Cnt->Value} {en:Trc->Nat} {ok:Trc->Prop} {P:Program} (hS:Seer P N0 f caps cv en ok Inv) {M0:Nat->Prop} {s:List (Value × Trc)} {vs:List Trc} {r:Option Trc} {w w3 w1 w2:World} {e:Ending} (h:RetRun M0 Inv s vs r w3 e w1) (hb:Bel w w3) (hN:N0<=w.heap.size)
  (hd:∀ k,M0 k->k<w.heap.size) {t6:Nat} (h6:w.heap.size<=t6) (h63:t6<w3.heap.size) (hA:Agr (fun k=>k=t6) w1 w2) {e2:Ending} (he:e2=e):RetRun M0 Inv s vs r w e2 w2:=by
 obtain ⟨⟨M',L,vt,q1,q2,q3,q4,q5,q6,q7⟩,q8⟩:=h;have n6:¬ M' t6:=fun hm=>(q7 _ hm).elim (fun h=>by have:=hd _ h;omega) (fun h=>by omega)
 have hz:=q8.size;have hzb:=hb.size
 have up:∀ R:World->Prop,Rb (fun k=>M' k∨k<w3.heap.size) R w1->Rb (fun k=>M' k∨k<w.heap.size) R w2:=fun R hR =>
  (hR.go (hA.mono fun k hk => .inr (by omega))).sub fun k hk=>hk.imp id fun h=>by omega
 refine ⟨⟨M',L,vt,?_,q2,fun x hx=>up _ (q3 x hx),by rw [he];exact q4,up _ q5,q6,fun k hk=>(q7 k hk).imp id fun h=>by omega⟩,?_⟩
 .exact hS.keep _ _ _ _ q1 hA.size fun k hk=>hk.elim (fun hm=>hA.block k (hS.dom _ _ _ q1 k hm) fun e=>n6 (e ▸ hm)) fun h=>hA.block k (by omega) (by omega)
 .have h1:Agr M0 w w1:=(Agr.of_belM hb).trans q8
  exact ⟨hA.os.trans h1.os,hA.tape.trans h1.tape,hA.output.trans h1.output,Nat.le_trans h1.size hA.size,fun k hk hn=>(hA.block k (Nat.lt_of_lt_of_le hk h1.size) (by omega)).trans (h1.block k hk hn)⟩
end
section
variable {Inv:(Nat->Prop)->List (Value × Trc)->World->Prop}
end
section
variable {Inv:(Nat->Prop)->List (Value × Trc)->World->Prop}
theorem aKr (B:Nat) (A:Option Addr) (cn:Nat) (p:Prg) (g:Graph) (kind:Int) (fs:FuncId) (capsS:Array Value) (v0:Value) (c:aA7) (Al:Option Addr) (cl:Nat) (l:List Nat)
  (M0:Nat->Prop) (s0:List (Value × Trc)) (w:World) (N0:Nat) (hN:N0<=w.heap.size) (hS:Seer prog N0 fs capsS aIs (fun t=>aAj p g t.last) (fun t=>OkT p g t) Inv) (hI:Inv M0 s0 w)
  (hR:Rb M0 (fun W=>aE9 W B p g/\aMb W A g/\aDg W/\aAd W Al l.length l) w) (hC:aAy w v0 c) (hm:aCv p g c=0) (hL:aAw p=true) (hl32:∀ y∈l,y<4294967296) (hlen:l.length<=120) (hs0:s0.length<=100) (hg:GOK g) :
  Calls prog 43 #[.agg #[.pointer (some ⟨B,0,none⟩),.slice A g.ports.length cn,.int .i64 kind,.int .u32 (aFr g.ports.length (fun _=>true):Nat),.func (.func fs) #[] capsS],v0,.slice Al l.length cl] w
   (RetRun M0 Inv s0 (aP6 p g kind (fun i E=>aAl g kind E (l.getD i 0)) (fun _ E=>decide (E≠0)) l.length 0 (aA3 p g c)) (aNp p g kind (fun i E=>aAl g kind E (l.getD i 0)) (fun _ E=>decide (E≠0)) l.length 0 (aA3 p g c)) w):=by
 have hd:=hS.dom _ _ _ hI;obtain ⟨A5,k5,rfl,_,_,_⟩:=(id hC:aAy _ _ _);have hb3:Bel w (((w.alloc (.cells #[.pointer (some ⟨B,0,none⟩),.slice A g.ports.length cn,.int .i64 kind,.int .u32 (aFr g.ports.length (fun _=>true):Nat),.func (.func fs) #[] capsS] 69)).alloc (.cells #[.slice Al l.length cl] 31)).alloc (.cells #[.slice none 0 0,.slice none 0 0,.slice none 0 0,.int .i64 0,.int .i64 0,.int .i64 0,.int .i64 0,.int .u32 0] 38)):=(((Bel.refl w).alloc _).alloc _).alloc _;have HR0X:Hid (Blk (((w.alloc (.cells #[.pointer (some ⟨B,0,none⟩),.slice A g.ports.length cn,.int .i64 kind,.int .u32 (aFr g.ports.length (fun _=>true):Nat),.func (.func fs) #[] capsS] 69)).alloc (.cells #[.slice Al l.length cl] 31)).alloc (.cells #[.slice none 0 0,.slice none 0 0,.slice none 0 0,.int .i64 0,.int .i64 0,.int .i64 0,.int .i64 0,.int .u32 0] 38)) w.heap.size #[.pointer (some ⟨B,0,none⟩),.slice A g.ports.length cn,.int .i64 kind,.int .u32 (aFr g.ports.length (fun _=>true):Nat),.func (.func fs) #[] capsS] 69):=((Blk.new _ _ _).alloc _).alloc _
 have HX1:Hid (Boxed (((w.alloc (.cells #[.pointer (some ⟨B,0,none⟩),.slice A g.ports.length cn,.int .i64 kind,.int .u32 (aFr g.ports.length (fun _=>true):Nat),.func (.func fs) #[] capsS] 69)).alloc (.cells #[.slice Al l.length cl] 31)).alloc (.cells #[.slice none 0 0,.slice none 0 0,.slice none 0 0,.int .i64 0,.int .i64 0,.int .i64 0,.int .i64 0,.int .u32 0] 38)) (w.heap.size+1) 31 (.slice Al l.length cl)):=by
  have:=Boxed.new (w.alloc (.cells #[.pointer (some ⟨B,0,none⟩),.slice A g.ports.length cn,.int .i64 kind,.int .u32 (aFr g.ports.length (fun _=>true):Nat),.func (.func fs) #[] capsS] 69)) 31 (.slice Al l.length cl);rw [World.size_alloc] at this;exact this.alloc _
 have HX2:Hid (Blk (((w.alloc (.cells #[.pointer (some ⟨B,0,none⟩),.slice A g.ports.length cn,.int .i64 kind,.int .u32 (aFr g.ports.length (fun _=>true):Nat),.func (.func fs) #[] capsS] 69)).alloc (.cells #[.slice Al l.length cl] 31)).alloc (.cells #[.slice none 0 0,.slice none 0 0,.slice none 0 0,.int .i64 0,.int .i64 0,.int .i64 0,.int .i64 0,.int .u32 0] 38)) (w.heap.size+1+1) aNz 38):=by
  have:=Blk.new ((w.alloc (.cells #[.pointer (some ⟨B,0,none⟩),.slice A g.ports.length cn,.int .i64 kind,.int .u32 (aFr g.ports.length (fun _=>true):Nat),.func (.func fs) #[] capsS] 69)).alloc (.cells #[.slice Al l.length cl] 31)) aNz 38;rw [World.size_alloc,World.size_alloc] at this;exact this
 have HR3:Hid (Rb M0 (fun W=>aE9 W B p g/\aMb W A g/\aDg W/\(Blk W w.heap.size (aQ9 B A cn g kind fs capsS) 69/\Boxed W (w.heap.size+1) 31 (.slice Al l.length cl)/\aAd W Al l.length l/\aMb W A g)) (((w.alloc (.cells #[.pointer (some ⟨B,0,none⟩),.slice A g.ports.length cn,.int .i64 kind,.int .u32 (aFr g.ports.length (fun _=>true):Nat),.func (.func fs) #[] capsS] 69)).alloc (.cells #[.slice Al l.length cl] 31)).alloc (.cells #[.slice none 0 0,.slice none 0 0,.slice none 0 0,.int .i64 0,.int .i64 0,.int .i64 0,.int .i64 0,.int .u32 0] 38))):=fun V hV =>
  let q:=(hR.bel hb3) V hV
  ⟨q.1,q.2.1,q.2.2.1,hV.blk HR0X.out fun e=>(by have:=hd _ e;omega),hV.boxed HX1.out fun e=>(by have:=hd _ e;omega),q.2.2.2,q.2.1⟩
 have HI3:Hid (Inv M0 s0 (((w.alloc (.cells #[.pointer (some ⟨B,0,none⟩),.slice A g.ports.length cn,.int .i64 kind,.int .u32 (aFr g.ports.length (fun _=>true):Nat),.func (.func fs) #[] capsS] 69)).alloc (.cells #[.slice Al l.length cl] 31)).alloc (.cells #[.slice none 0 0,.slice none 0 0,.slice none 0 0,.int .i64 0,.int .i64 0,.int .i64 0,.int .i64 0,.int .u32 0] 38))):=hS.keep _ _ _ _ hI hb3.size fun k hk=>hb3.block k (hk.elim (hd k) fun e=>by omega)
 have HC3:=aA0 (hC.keep hb3);have HS:=aA0 hS;have HM:=aA0 hm;have HL:=aA0 hL;have HCL:Hid (∀ i E:Nat,E<2 ^ g.ports.length->aAl g kind E (l.getD i 0)<4294967296):=fun i E hE=>aVr g kind _ (Nat.lt_of_lt_of_le hE (Nat.pow_le_pow_right (n:=2) (by decide) (show g.ports.length<=32 by have:=hg.le;omega)))
 have HB3:=aA0 hb3;have HD:=aA0 hd;have HN:=aA0 hN;have hz3:(((w.alloc (.cells #[.pointer (some ⟨B,0,none⟩),.slice A g.ports.length cn,.int .i64 kind,.int .u32 (aFr g.ports.length (fun _=>true):Nat),.func (.func fs) #[] capsS] 69)).alloc (.cells #[.slice Al l.length cl] 31)).alloc (.cells #[.slice none 0 0,.slice none 0 0,.slice none 0 0,.int .i64 0,.int .i64 0,.int .i64 0,.int .i64 0,.int .u32 0] 38)).heap.size=w.heap.size+1+1+1:=by simp
 have HG:=aA0 hg;clear hS hI hR hC hm hL hb3 hd;go_enter func43,ntmps43
 go_wp2_with (go_at_call 62;refine (aSx B A cn p g kind fs capsS 70 #[.pointer (some ⟨w.heap.size,0,none⟩),.pointer (some ⟨w.heap.size+1,0,none⟩)] _ c l.length (fun i E=>aAl g kind E (l.getD i 0)) (fun _ E=>decide (E≠0)) M0 s0 (fun W=>(Blk W w.heap.size (aQ9 B A cn g kind fs capsS) 69/\Boxed W (w.heap.size+1) 31 (.slice Al l.length cl)/\aAd W Al l.length l/\aMb W A g)) _ N0 (by rw [hz3];omega) HS.out HI3.out HR3.out HC3.out HM.out HL.out (fun a b W=>by kernel_rfl) (fun W i E h1 h2 hi hE=>aSy _ _ B A cn g kind fs capsS _ _ l i E W h1.1 h1.2.1 h1.2.2.1 hi hl32 h1.2.2.2 h2 HG.out hE) HCL.out hlen hs0).mono ?_;rintro e w1 hret;have HRT:=aA0 hret;obtain ⟨⟨M',L,vt,q1,q2,q3,q4,q5,q6,q7⟩,q8⟩:=hret;subst q4;have HZ:Hid (Blk w1 (w.heap.size+1+1) aNz 38):=q8.blk HX2.out (fun e=>by have:=HD.out _ e;omega);generalize hoe:(aVl (aNp p g kind (fun i E=>aAl g kind E (l.getD i 0)) (fun _ E=>decide (E≠0)) l.length 0 (aA3 p g c))).2=oe at *;have q9:=q5.here;generalize (aVl (aNp p g kind (fun i E=>aAl g kind E (l.getD i 0)) (fun _ E=>decide (E≠0)) l.length 0 (aA3 p g c))).1=ot at q9;obtain ⟨A1,k1,A2,k2,A3,k3,rfl,_⟩:=q9;clear q1 q2 q3 q5 q6 q7 q8 hoe;have z0:=HZ.out.cell 0 (v := .slice none 0 0) rfl;have f0:=HZ.out.frozen 0;have z1:=HZ.out.cell 1 (v := .slice none 0 0) rfl;have f1:=HZ.out.frozen 1;have z2:=HZ.out.cell 2 (v := .slice none 0 0) rfl;have f2:=HZ.out.frozen 2;have z3:=HZ.out.cell 3 (v := .int .i64 0) rfl;have f3:=HZ.out.frozen 3;have z4:=HZ.out.cell 4 (v := .int .i64 0) rfl;have f4:=HZ.out.frozen 4;have z5:=HZ.out.cell 5 (v := .int .i64 0) rfl;have f5:=HZ.out.frozen 5;have z6:=HZ.out.cell 6 (v := .int .i64 0) rfl;have f6:=HZ.out.frozen 6;have z7:=HZ.out.cell 7 (v := .int .u32 0) rfl;have f7:=HZ.out.frozen 7;have zl:=HZ.out.lt)
 have HR9:Blk ((((((((w1.setCell ⟨w.heap.size+1+1,0,none⟩ (.slice A1 ot.chosen.length k1)).setCell ⟨w.heap.size+1+1,1,none⟩ (.slice A2 ot.enabled.length k2)).setCell ⟨w.heap.size+1+1,2,none⟩ (.slice A3 ot.last.length k3)).setCell ⟨w.heap.size+1+1,3,none⟩ (.int .i64 ot.count.steps)).setCell ⟨w.heap.size+1+1,4,none⟩ (.int .i64 ot.count.moves)).setCell ⟨w.heap.size+1+1,5,none⟩ (.int .i64 ot.count.rounds)).setCell ⟨w.heap.size+1+1,6,none⟩ (.int .i64 ot.count.begun)).setCell ⟨w.heap.size+1+1,7,none⟩ (.int .u32 (ot.count.pending:Int))) (w.heap.size+1+1) #[.slice A1 ot.chosen.length k1,.slice A2 ot.enabled.length k2,.slice A3 ot.last.length k3,.int .i64 ot.count.steps,.int .i64 ot.count.moves,.int .i64 ot.count.rounds,.int .i64 ot.count.begun,.int .u32 (ot.count.pending:Int)] 38:=((((((((HZ.out.set 0 _).set 1 _).set 2 _).set 3 _).set 4 _).set 5 _).set 6 _).set 7 _);have y0:=HR9.cell 0 (v := .slice A1 ot.chosen.length k1) rfl;have y1:=HR9.cell 1 (v := .slice A2 ot.enabled.length k2) rfl;have y2:=HR9.cell 2 (v := .slice A3 ot.last.length k3) rfl;have y3:=HR9.cell 3 (v := .int .i64 ot.count.steps) rfl;have y4:=HR9.cell 4 (v := .int .i64 ot.count.moves) rfl;have y5:=HR9.cell 5 (v := .int .i64 ot.count.rounds) rfl;have y6:=HR9.cell 6 (v := .int .i64 ot.count.begun) rfl;have y7:=HR9.cell 7 (v := .int .u32 (ot.count.pending:Int)) rfl;refine bodyPost_ret (v := .tuple #[.agg #[.slice A1 ot.chosen.length k1,.slice A2 ot.enabled.length k2,.slice A3 ot.last.length k3,.int .i64 ot.count.steps,.int .i64 ot.count.moves,.int .i64 ot.count.rounds,.int .i64 ot.count.begun,.int .u32 (ot.count.pending:Int)],.int .i64 oe]) (by simp [results,Tryz.results43,go_sem,y0,y1,y2,y3,y4,y5,y6,y7];try go_simp) rfl ?_
 exact HRT.out.laid HS.out HB3.out HN.out HD.out (t6:=w.heap.size+1+1) (by omega) (by rw [hz3];omega) ((((((((Agr.setCell (E:=fun k=>k=w.heap.size+1+1) w1 ⟨w.heap.size+1+1,0,none⟩ _ rfl).trans (Agr.setCell _ ⟨w.heap.size+1+1,1,none⟩ _ rfl)).trans (Agr.setCell _ ⟨w.heap.size+1+1,2,none⟩ _ rfl)).trans (Agr.setCell _ ⟨w.heap.size+1+1,3,none⟩ _ rfl)).trans (Agr.setCell _ ⟨w.heap.size+1+1,4,none⟩ _ rfl)).trans (Agr.setCell _ ⟨w.heap.size+1+1,5,none⟩ _ rfl)).trans (Agr.setCell _ ⟨w.heap.size+1+1,6,none⟩ _ rfl)).trans (Agr.setCell _ ⟨w.heap.size+1+1,7,none⟩ _ rfl)) rfl
end
end Go.Proofs.YtdcjnhoabbdanaaGreatDoor

