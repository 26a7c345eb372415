/- Merged. -/
import Derived.Test.YtdcjnhoabbdanaaGreatDoorZ32
import Derived.Test.YtdcjnhoabbdanaaGreatDoorZ30
set_option linter.unusedSimpArgs false
set_option linter.unnecessarySimpa false
set_option linter.unusedVariables false
set_option maxRecDepth 100000
set_option maxHeartbeats 2000000
open Go.Proofs.Tryz

namespace Go.Proofs.YtdcjnhoabbdanaaGreatDoor
open Go.RowKit
theorem aYg (sb:Nat) (A:Option Addr) (c:Nat) (l:List Nat) (i E:Nat) (w:World) (hB:Boxed w sb 31 (.slice A l.length c)) (hM:aAa w A l.length l) (hi:i<l.length) :
  Calls prog 63 #[.int .i64 (i:Int),.int .u32 (E:Int),.pointer (some ⟨sb,0,none⟩)] w fun e w'=>e = .returned (.tuple #[.int .u32 (l.getD i 0:Nat),.bool true])/\Bel w w':=by
 obtain ⟨b,o,rfl,hb,hc⟩:=hM.at_ i hi;rw [aA8 hi];obtain ⟨c0,_,c2⟩:=aA4 hB;have hd:decide (i<l.length)=true:=by simpa using hi
 have HB:=aA0 (Bel.refl w);generalize l[i]=S at *;clear hB hM;go_enter func63,ntmps63
 go_wp2_with fail
 go_ret2
 exact ⟨rfl,HB.out⟩
def aQw (B:Nat) (A:Option Addr) (cn:Nat) (g:Graph) (kind:Int) (fs:FuncId) (capsS:Array Value):Array Value :=
 #[.pointer (some ⟨B,0,none⟩),.slice A g.ports.length cn,.int .i64 kind,.int .u32 (aBw g.ports.length (fun _=>true):Nat),.func (.func fs) #[] capsS]
theorem aTo (rb wb B:Nat) (A:Option Addr) (cn:Nat) (g:Graph) (kind:Int) (fs:FuncId) (capsS:Array Value) (Aw:Option Addr) (c:Nat) (l:List Nat) (i E:Nat) (w:World) (hR:Blk w rb (aQw B A cn g kind fs capsS) 69)
  (hB:Boxed w wb 31 (.slice Aw l.length c)) (hM:aAa w Aw l.length l) (hi:i<l.length) (hl:∀ s∈l,s<4294967296) (hN:aKw w A g) (hT:aCt w) (hg:GOK g) (hE:E<2 ^ g.ports.length) :
  Calls prog 70 #[.int .i64 (i:Int),.int .u32 (E:Int),.pointer (some ⟨rb,0,none⟩),.pointer (some ⟨wb,0,none⟩)] w fun e w'=>e = .returned (.tuple #[.int .u32 (aCg g kind E (l.getD i 0):Nat),.bool (decide (E≠0))])/\Bel w w':=by
 obtain ⟨b,o,rfl,hb,hc⟩:=hM.at_ i hi;rw [aA8 hi];have hS:=hl _ (List.getElem_mem hi);have hd:decide (i<l.length)=true:=by simpa using hi
 have HB:=Bel.refl w;have hbe:((E:Int) != 0)=decide (E≠0):=by rw [Bool.eq_iff_iff];simp
 have HBE:=aA0 hbe;have HNT:=aA0 (fun w' (k:Bel w w')=>And.intro (hN.keep k) (hT.keep k));have HG:=aA0 hg;have HE:=aA0 hE
 have hcell:=aA0 (fun w' (k:Bel w w')=>show w'.cell? ⟨rb,1,none⟩=some (.slice A g.ports.length cn)/\w'.cell? ⟨rb,2,none⟩=some (.int .i64 kind)/\w'.cell? ⟨wb,0,none⟩=some (.slice (some ⟨b,o,none⟩) l.length c)/\w'.cell? ⟨b,o+i,none⟩=some (.int .u32 (l[i]:Nat))/\rb<w'.heap.size/\wb<w'.heap.size/\b<w'.heap.size from
  ⟨(hR.keep k).cell 1 rfl,(hR.keep k).cell 2 rfl,(k.cell hB.lt).trans hB.cell,(k.cell hb).trans hc,(hR.keep k).lt,Nat.lt_of_lt_of_le hB.lt k.size,Nat.lt_of_lt_of_le hb k.size⟩)
 clear hR hB hM hN hT hg hE hc hbe hb hl;generalize l[i]=S at *;go_enter func70,ntmps70
 go_wp2_with fail
 replace HB:=HB.drew
 go_region_held3 (fun w'=>w'.cell? ⟨rb,1,none⟩=some (.slice A g.ports.length cn)/\w'.cell? ⟨rb,2,none⟩=some (.int .i64 kind)/\w'.cell? ⟨wb,0,none⟩=some (.slice (some ⟨b,o,none⟩) l.length c)/\w'.cell? ⟨b,o+i,none⟩=some (.int .u32 (S:Nat))/\rb<w'.heap.size/\wb<w'.heap.size/\b<w'.heap.size) (exact hcell.out _ HB) (first
  | (go_simp;go_at_call 71;refine (aUe A cn g kind E S _ (HNT.out _ HB).1 (HNT.out _ HB).2 HG.out HE.out hS).mono ?_;rintro e w2 ⟨rfl,hb2⟩;replace HB:=HB.trans hb2;clear hb2))
 go_wp2_with fail
 go_ret2
 exact ⟨by rw [HBE.out];rfl,HB⟩
def aIp:Array Value:=#[.slice none 0 0,.slice none 0 0,.slice none 0 0,.int .i64 0,.int .i64 0,.int .i64 0,.int .i64 0,.int .u32 0]
section
variable {Inv:(Nat->Prop)->List (Value × Trc)->World->Prop}
theorem RetRun.laid {N0:Nat} {f:FuncId} {caps:Array Value} {cv:Cnt->Value} {en:Trc->Nat} {ok:Trc->Prop} {P:Program} (hS:Seer P N0 f caps cv en ok Inv) {M0:Nat->Prop} {s:List (Value × Trc)} {vs:List Trc} {r:Option Trc} {w w3 w1 w2:World} {e:Ending} (h:RetRun M0 Inv s vs r w3 e w1) (hb:Bel w w3) (hN:N0<=w.heap.size)
  (hd:∀ k,M0 k->k<w.heap.size) {t6:Nat} (h6:w.heap.size<=t6) (h63:t6<w3.heap.size) (hA:Agr (fun k=>k=t6) w1 w2) {e2:Ending} (he:e2=e):RetRun M0 Inv s vs r w e2 w2:=by
 obtain ⟨⟨M',L,vt,q1,q2,q3,q4,q5,q6,q7⟩,q8⟩:=h;have n6:¬ M' t6:=fun hm=>(q7 _ hm).elim (fun h=>by have:=hd _ h;omega) (fun h=>by omega)
 have hz:=q8.size;have hzb:=hb.size
 have up:∀ R:World->Prop,Rb (fun k=>M' k∨k<w3.heap.size) R w1->Rb (fun k=>M' k∨k<w.heap.size) R w2:=fun R hR =>
  (hR.go (hA.mono fun k hk => .inr (by omega))).sub fun k hk=>hk.imp id fun h=>by omega
 refine ⟨⟨M',L,vt,?_,q2,fun x hx=>up _ (q3 x hx),by rw [he];exact q4,up _ q5,q6,fun k hk=>(q7 k hk).imp id fun h=>by omega⟩,?_⟩
 .exact hS.keep _ _ _ _ q1 hA.size fun k hk=>hk.elim (fun hm=>hA.block k (hS.dom _ _ _ q1 k hm) fun e=>n6 (e ▸ hm)) fun h=>hA.block k (by omega) (by omega)
 .have h1:Agr M0 w w1:=(Agr.of_belM hb).trans q8
  exact ⟨hA.os.trans h1.os,hA.tape.trans h1.tape,hA.output.trans h1.output,Nat.le_trans h1.size hA.size,fun k hk hn=>(hA.block k (Nat.lt_of_lt_of_le hk h1.size) (by omega)).trans (h1.block k hk hn)⟩
end
end Go.Proofs.YtdcjnhoabbdanaaGreatDoor

