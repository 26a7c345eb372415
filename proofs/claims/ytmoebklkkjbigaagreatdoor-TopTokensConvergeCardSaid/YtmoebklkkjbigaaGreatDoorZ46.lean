/- Merged. -/
import Derived.Test.YtmoebklkkjbigaaGreatDoorZ32
set_option linter.unusedSimpArgs false
set_option linter.unnecessarySimpa false
set_option linter.unusedVariables false
set_option maxRecDepth 100000
set_option maxHeartbeats 8000000
open Go.Proofs.Tryz

namespace Go.Proofs.YtmoebklkkjbigaaGreatDoor
open Go.RowKit
def bM1:Option Trc->Trc × Int
 | some t=>(t,0)
 | none=>(⟨[],[],[],⟨0,0,0,0,0⟩⟩,11)
def aKu (w:World) (v:Value) (t:Trc):Prop :=
 ∃ A1 k1 A2 k2 A3 k3,v = .agg #[.slice A1 t.chosen.length k1,.slice A2 t.enabled.length k2,.slice A3 t.last.length k3,.int .i64 t.count.steps,.int .i64 t.count.moves,.int .i64 t.count.rounds,.int .i64 t.count.begun,.int .u32 (t.count.pending:Int)] /\
  aBw w A1 t.chosen.length t.chosen/\t.chosen.length<=k1/\k1<=maxLen/\aBw w A2 t.enabled.length t.enabled/\t.enabled.length<=k2/\k2<=maxLen/\aD2 w (.slice A3 t.last.length k3) t.last
theorem aKu.keep {w w':World} {v:Value} {t:Trc} (h:aKu w v t) (k:Bel w w'):aKu w' v t:=by
 obtain ⟨A1,k1,A2,k2,A3,k3,e,h1,h2,h3,h4,h5,h6,h7⟩:=h;exact ⟨A1,k1,A2,k2,A3,k3,e,aBw.keep h1 k,h2,h3,aBw.keep h4 k,h5,h6,h7.keep k⟩
theorem aKu.zero (w:World):aKu w (.agg #[.slice none 0 0,.slice none 0 0,.slice none 0 0,.int .i64 0,.int .i64 0,.int .i64 0,.int .i64 0,.int .u32 0]) ⟨[],[],[],⟨0,0,0,0,0⟩⟩ :=
 ⟨none,0,none,0,none,0,rfl,aAc.nil,Nat.le_refl _,by unfold maxLen;decide,aAc.nil,Nat.le_refl _,by unfold maxLen;decide,aD2.nil _⟩
theorem bK9 (p:Prg) (g:Graph) (kind:Int) (ch:Nat->Nat->Nat) (gs:Nat->Nat->Bool) (n i:Nat) (t:Trc):t :: (aZb p g kind ch gs n i t).tail=aZb p g kind ch gs n i t:=by cases n <;> rfl
theorem bDr (p:Prg) (g:Graph) (kind:Int) (ch:Nat->Nat->Nat) (gs:Nat->Nat->Bool):∀ (n i:Nat) (t:Trc),(aZb p g kind ch gs n i t).length<=n+1
 | 0,_,_=>Nat.le_refl _
 | n+1,i,t=>by
  unfold aZb;rw [List.length_cons];split
  .have:=bDr p g kind ch gs n (i+1) (aIx p g t (ch i (aAe p g t.last)));omega
  .simp
structure RetRun (M:Nat->Prop) (Inv:(Nat->Prop)->List (Value × Trc)->World->Prop) (s:List (Value × Trc)) (vs:List Trc) (r:Option Trc) (w:World) (e:Ending) (w':World):Prop where
 out:∃ M' L vt,Inv M' (s++L) w'/\L.map Prod.snd=vs/\(∀ x∈L,Rb (fun k=>M' k∨k<w.heap.size) (fun W=>aD2 W x.1 x.2.last) w')/\e = .returned (.tuple #[vt,.int .i64 (bM1 r).2])/\Rb (fun k=>M' k∨k<w.heap.size) (fun W=>aKu W vt (bM1 r).1) w'/\(∀ k,M k->M' k)/\∀ k,M' k->M k∨w.heap.size<=k
 agr:Agr M w w'
section
variable {Inv:(Nat->Prop)->List (Value × Trc)->World->Prop}
theorem bA9 (B:Nat) (A:Option Addr) (cn:Nat) (p:Prg) (g:Graph) (kind:Int) (fs:FuncId) (capsS:Array Value) (fc:FuncId) (capsC:Array Value) (v0:Value) (c:aA3) (len:Nat) (ch:Nat->Nat->Nat) (gs:Nat->Nat->Bool)
  (M0:Nat->Prop) (s0:List (Value × Trc)) (Rc:World->Prop) (w:World) (N0:Nat) (hN:N0<=w.heap.size)
  (hS:Seer prog N0 fs capsS aWt (fun t=>aAe p g t.last) (fun t=>OkT p g t) Inv) (hI:Inv M0 s0 w) (hR:Rb M0 (fun W=>aEo W B p g/\aOp W A g/\aDl W/\Rc W) w) (hC:aD2 w v0 c)
  (hm:aC4 p g c=0) (hL:aCc p=true)
  (hce:∀ a b W,(callFunc fc (#[a,b]++capsC)).run prog W = .ok (.enter fc (#[a,b]++capsC)) W)
  (hch:∀ W i E,Rc W->aDl W->i<len->E<2 ^ g.ports.length->Calls prog fc (#[.int .i64 (i:Int),.int .u32 (E:Int)]++capsC) W fun e W'=>e = .returned (.tuple #[.int .u32 (ch i E:Int),.bool (gs i E)])/\Bel W W')
  (hcl:∀ i E,E<2 ^ g.ports.length->ch i E<4294967296) (hlen:len<=120) (hs0:s0.length<=100) :
  Calls prog 94 #[.agg #[.pointer (some ⟨B,0,none⟩),.slice A g.ports.length cn,.int .i64 kind,.int .u32 (aHv g.ports.length (fun _=>true):Nat),.func (.func fs) #[] capsS],v0,.int .i64 (len:Int),.func (.func fc) #[] capsC] w (RetRun M0 Inv s0 (aZb p g kind ch gs len 0 (aDi p g c)) (aVm p g kind ch gs len 0 (aDi p g c)) w):=by
 obtain ⟨A5,k5,rfl,_,_,_⟩:=(id hC:aD2 _ _ _);have HS:=aA0 hS;have HI:=aA0 hI;have HR:=aA0 hR;have HC:=aA0 (fun w' (k:Bel w w')=>hC.keep k);have HM:=aA0 hm;have HL:=aA0 hL;have HCH:=aA0 hch;have HCL:=aA0 hcl;have HN:=aA0 hN;have hg:=(aAt (aBy hm).1).2.1;have HG:=aA0 hg;have hle:=hg.le;have hsee:=hS.enter;obtain ⟨i0,hi0,hz0,hz1,hz2⟩:=info_parts aNc;obtain ⟨AL,hAL⟩:∃ AL,AL=aHv g.ports.length (fun _=>true):=⟨_,rfl⟩;rw [<- hAL]
 have HALW:Hid (∀ d:aA3,aC4 p g d=0->bits .and .u32 (aAe p g d:Int) (AL:Int)=(aAe p g d:Int)/\aAe p g d<4294967296/\aAe p g d<16777216):=fun d hd=>by
  have h1:=aG9 hd;have h3:=aUc hd;have h2:AL<4294967296:=by rw [hAL];exact aN5 _ (by omega)
  refine ⟨?_,by omega,h3⟩
  rw [aCs (by omega) h2,(aGs (by omega) h2).2 (by rw [hAL];exact aZe (by omega) h1)]
 obtain ⟨R0,hR0⟩:∃ R0,aVm p g kind ch gs len 0 (aDi p g c)=R0:=⟨_,rfl⟩;obtain ⟨V0,hV0⟩:∃ V0,aZb p g kind ch gs len 0 (aDi p g c)=V0:=⟨_,rfl⟩;rw [hR0,hV0];have HR0:=aA0 hR0;have HV0:=aA0 hV0;clear hS hI hR hC hm hL hch hcl hg hAL hN hR0 hV0;have hl3:Bel w (((w.alloc (.cells #[.pointer (some ⟨B,0,none⟩),.slice A g.ports.length cn,.int .i64 kind,.int .u32 (AL:Nat),.func (.func fs) #[] capsS] 114)).alloc (.cells #[.slice none 0 0,.slice none 0 0,.slice none 0 0,.int .i64 0,.int .i64 0,.int .i64 0,.int .i64 0,.int .u32 0] 70)).alloc (.cells #[.slice none 0 0,.slice none 0 0,.slice none 0 0,.int .i64 0,.int .i64 0,.int .i64 0,.int .i64 0,.int .u32 0] 70)):=(((Bel.refl w).alloc _).alloc _).alloc _;have HX0:Hid (Blk (((w.alloc (.cells #[.pointer (some ⟨B,0,none⟩),.slice A g.ports.length cn,.int .i64 kind,.int .u32 (AL:Nat),.func (.func fs) #[] capsS] 114)).alloc (.cells #[.slice none 0 0,.slice none 0 0,.slice none 0 0,.int .i64 0,.int .i64 0,.int .i64 0,.int .i64 0,.int .u32 0] 70)).alloc (.cells #[.slice none 0 0,.slice none 0 0,.slice none 0 0,.int .i64 0,.int .i64 0,.int .i64 0,.int .i64 0,.int .u32 0] 70)) w.heap.size #[.pointer (some ⟨B,0,none⟩),.slice A g.ports.length cn,.int .i64 kind,.int .u32 (AL:Nat),.func (.func fs) #[] capsS] 114):=((Blk.new _ _ _).alloc _).alloc _
 have HX1:Hid (Blk (((w.alloc (.cells #[.pointer (some ⟨B,0,none⟩),.slice A g.ports.length cn,.int .i64 kind,.int .u32 (AL:Nat),.func (.func fs) #[] capsS] 114)).alloc (.cells #[.slice none 0 0,.slice none 0 0,.slice none 0 0,.int .i64 0,.int .i64 0,.int .i64 0,.int .i64 0,.int .u32 0] 70)).alloc (.cells #[.slice none 0 0,.slice none 0 0,.slice none 0 0,.int .i64 0,.int .i64 0,.int .i64 0,.int .i64 0,.int .u32 0] 70)) (w.heap.size+1) (aEn (.slice none 0 0) (.slice none 0 0)) 70):=by
  have:=Blk.new (w.alloc (.cells #[.pointer (some ⟨B,0,none⟩),.slice A g.ports.length cn,.int .i64 kind,.int .u32 (AL:Nat),.func (.func fs) #[] capsS] 114)) (aEn (.slice none 0 0) (.slice none 0 0)) 70;rw [World.size_alloc] at this;exact this.alloc _
 have HX2:Hid (Blk (((w.alloc (.cells #[.pointer (some ⟨B,0,none⟩),.slice A g.ports.length cn,.int .i64 kind,.int .u32 (AL:Nat),.func (.func fs) #[] capsS] 114)).alloc (.cells #[.slice none 0 0,.slice none 0 0,.slice none 0 0,.int .i64 0,.int .i64 0,.int .i64 0,.int .i64 0,.int .u32 0] 70)).alloc (.cells #[.slice none 0 0,.slice none 0 0,.slice none 0 0,.int .i64 0,.int .i64 0,.int .i64 0,.int .i64 0,.int .u32 0] 70)) (w.heap.size+1+1) (aEn (.slice none 0 0) (.slice none 0 0)) 70):=by
  have:=Blk.new ((w.alloc (.cells #[.pointer (some ⟨B,0,none⟩),.slice A g.ports.length cn,.int .i64 kind,.int .u32 (AL:Nat),.func (.func fs) #[] capsS] 114)).alloc (.cells #[.slice none 0 0,.slice none 0 0,.slice none 0 0,.int .i64 0,.int .i64 0,.int .i64 0,.int .i64 0,.int .u32 0] 70)) (aEn (.slice none 0 0) (.slice none 0 0)) 70;rw [World.size_alloc,World.size_alloc] at this;exact this
 have HL3:=aA0 hl3;go_enter func94,ntmps94
 go_wp2_with (go_at_call 132;refine (aP0 _ c _ (HC.out _ HL3.out) (aNk HM.out HL.out)).mono ?_;rintro e w1 ⟨gb,cap,hs,rfl,hO,hsn,hb⟩;have HO:=aA0 hO;have HSN:=aA0 hsn;have HBB:=aA0 (HL3.out.trans hb);replace HX0:=aA0 (HX0.out.keep hb);replace HX1:=aA0 (HX1.out.keep hb);replace HX2:=aA0 (HX2.out.keep hb);clear hO hsn hb)
 clear HL3 hl3 HC;have HCB:=aA0 HO.out.conf;have HCV:=aA0 (fun w' (k:Bel w1 w')=>HCB.out.keep k);have HMV:=aA0 (fun w' (k:Bel w1 w')=>((HR.out.bel (HBB.out.trans k)).here).1);have hcell:=aA0 (fun w' (k:Bel w1 w')=>show w'.cell? ⟨w.heap.size,0,none⟩=some (.pointer (some ⟨B,0,none⟩))/\w'.cell? ⟨w.heap.size,3,none⟩=some (.int .u32 (AL:Int))/\w.heap.size<w'.heap.size from ⟨(HX0.out.keep k).cell 0 rfl,(HX0.out.keep k).cell 3 rfl,(HX0.out.keep k).lt⟩)
 have HNC:Hid (∀ (X:Nat->Prop) (W:World),(∀ k,X k->k<w.heap.size+1+1+1)->Bel w1 W->Rb X (fun V=>aD2 V (.slice (some ⟨gb,0,none⟩) c.length cap) c) W):=fun X W hX k=>(Rb.new (N:=w.heap.size+1+1+1) (fun V hV=>HO.out.newC HSN.out (by simpa using hV)) hX).bel k
 have HB:=(Bel.refl w1).drew
 go_region_held3 (fun w'=>w'.cell? ⟨w.heap.size,0,none⟩=some (.pointer (some ⟨B,0,none⟩))/\w'.cell? ⟨w.heap.size,3,none⟩=some (.int .u32 (AL:Int))/\w.heap.size<w'.heap.size) (exact hcell.out _ HB) (first | (go_simp;go_at_call 133;refine (aIs B p g _ c _ (HMV.out _ HB) (HCV.out _ HB) HM.out HL.out).mono ?_;rintro e w2 ⟨rfl,hb2⟩;replace HB:=HB.trans hb2;clear hb2))
 obtain ⟨ha1,ha2,ha3⟩:=HALW.out c HM.out;have HST:Hid (∀ W,Bel w1 W->RunI N0 w M0 #[.pointer (some ⟨B,0,none⟩),.slice A g.ports.length cn,.int .i64 kind,.int .u32 (AL:Nat),.func (.func fs) #[] capsS] W.heap.size (fun W=>aEo W B p g/\aOp W A g/\aDl W/\Rc W) (fun _=>True) Inv s0 (W.alloc (.cells (aI7 (aOt (aAe p g c))) 68)) M0 (fun k=>(M0 k∨k=w.heap.size+1)∨k=w.heap.size+1+1∨k=W.heap.size) [] [] [] none 0 none 0 (aOt (aAe p g c))):=fun W k=>RunI.start HS.out HI.out HN.out HR.out (HX0.out.keep k) (HX1.out.keep k) (HX2.out.keep k) (HBB.out.trans k) _;have HDM:Hid (∀ k,M0 k->k<w.heap.size):=HS.out.dom _ _ _ HI.out;have HEC:Hid (aAe p g (aDi p g c).last=aAe p g c):=rfl;have HOK0:Hid (OkT p g (aDi p g c)):=OkT.start HM.out
 have HSEE:Hid (∀ (W:World),Inv M0 s0 W->aD2 W (.slice (some ⟨gb,0,none⟩) c.length cap) c->Calls prog fs (#[.slice (some ⟨gb,0,none⟩) c.length cap,.int .u32 (aAe p g c:Nat),.agg #[.int .i64 0,.int .i64 0,.int .i64 0,.int .i64 0,.int .u32 (aAe p g c:Nat)]]++capsS) W fun e w' =>
   (∃ x,e = .returned x)/\∃ M',Inv M' (s0++[(.slice (some ⟨gb,0,none⟩) c.length cap,aDi p g c)]) w'/\Agr M0 W w'/\(∀ k,M0 k->M' k)/\∀ k,M' k->M0 k∨W.heap.size<=k):=fun W hi hc=>HS.out.call M0 s0 W _ (aDi p g c) (by omega) hi hc HOK0.out
 have HSTC:Hid ((aDi p g c).chosen=[]/\(aDi p g c).enabled=[aAe p g c]/\(aDi p g c).count=aOt (aAe p g c)):=⟨rfl,rfl,rfl⟩;clear hcell HX1 HX2;generalize hE:aAe p g c=E at *
 go_upto_region 6 with (first
  | (go_at_call 134;refine (aTu E _ ha3).mono ?_;rintro e w3 ⟨rfl,hb3⟩;rw [show aWt (aOt E) = .agg #[.int .i64 0,.int .i64 0,.int .i64 0,.int .i64 0,.int .u32 (E:Int)] from rfl];replace HB:=HB.trans hb3;have HRI:=aA0 (HST.out _ HB);obtain ⟨cb,hcb⟩:∃ cb,w3.heap.size=cb:=⟨_,rfl⟩;have HCX:=aA0 (HNC.out (fun k=>((M0 k∨k=w.heap.size+1)∨k=w.heap.size+1+1)∨k<w.heap.size) w3 (fun k hk=>hk.elim (fun hk=>hk.elim (fun e=>e.elim (fun e=>by have:=HDM.out k e;omega) (fun e=>by omega)) (fun e=>by omega)) (fun e=>by omega)) HB);have HCBL:=aA0 hcb;have HXB:=aA0 (HX0.out.keep HB);have r4:=HXB.out.cell 4 (v := .func (.func fs) #[] capsS) rfl;have rl:=HXB.out.lt;clear hb3 hcb)
  | (refine (HSEE.out _ (by have:=HRI.out.inv;rwa [List.append_nil] at this) (HCV.out _ (HB.alloc _))).mono ?_;rintro e w4 ⟨⟨x,rfl⟩,M1,hI1,hA1,hG1,hM1⟩;have HR2:=aA0 (HRI.out.see HS.out hA1 hG1 hM1 (by rw [List.append_nil];exact hI1) (HCX.out.grow.bel ((Bel.refl w3).alloc _)));have t1:=HR2.out.tr.cell 1 (v := .slice none 0 0) rfl;have tl:=HR2.out.tr.lt;clear hI1 hA1 hG1 hM1))
 clear t1 tl;have t1:=HR2.out.tr.cell 1 (v := .slice none 0 0) rfl;have tl:=HR2.out.tr.lt
 go_upto_region 7 with (at_builtin;go_must (refine aBr _ rfl (.tmp 34) (.tmp 36) 39 rfl (w.heap.size+1+1+1) 46 i0 (.int .u32 0) 1 4 underlying39 hi0 hz0 hz1 hz2 rfl (by decide) none 0 0 (([]:List Nat).map aGa) rfl (HR2.out.row2.alloc _) w4.heap.size #[.int .u32 (E:Int)] 46 (0,0) rfl (aAx _ _) rfl (aMx _) (by unfold maxLen;omega) (by omega) (by have:=HR2.out.tr.lt;simp;omega) ?_);intro A' k' w5 hown hgr hat;have HQ:=aA0 (HR2.out.mid2 hgr);obtain ⟨X',hX'⟩:=HR2.out.push2 (l2:=([]:List Nat)) (S:=E) HS.out hown hgr hat;have HR3:=aA0 hX';clear t1 tl hX' hown hgr hat;have t1:=HQ.out.cell 1 (v := .slice none 0 0) rfl;have tl:=HQ.out.lt;have tf1:=HQ.out.frozen 1;clear HQ)
 clear HRI HR2 HB HBB HCB HCV HMV HX0 HST HDM HNC HO HSN HCX HSEE HOK0 HI HR HEC HSTC HXB HCBL t1 tl tf1
 (try clear rl r4)
 subst hE;generalize w5.setCell ⟨w.heap.size+1+1,1,none⟩ (.slice A' 1 k')=W6 at *;generalize w3.heap.size=cb at *
 go_wp2_with fail
 go_loopg [1,11,13,14,15,40] len (fun m x1 x11 _a _b _c x40 wr=>∃ (i:Nat) (t:Trc) (M X:Nat->Prop) (L:List (Value × Trc)) (Av:Option Addr) (kv:Nat) (A1:Option Addr) (k1:Nat) (A2:Option Addr) (k2:Nat),i<=len/\m=len-i/\x1 = .slice Av t.last.length kv/\x11 = .int .u32 (aAe p g t.last:Nat)/\x40 = .int .i64 i/\Hid (RunI N0 w M0 #[.pointer (some ⟨B,0,none⟩),.slice A g.ports.length cn,.int .i64 kind,.int .u32 (AL:Nat),.func (.func fs) #[] capsS] cb (fun W=>aEo W B p g/\aOp W A g/\aDl W/\Rc W) (fun _=>True) Inv s0 wr M X L t.chosen t.enabled A1 k1 A2 k2 t.count)/\Hid (OkT p g t)/\Hid (t.chosen.length=i)/\Hid ((.slice Av t.last.length kv,t)∈L)/\Hid (aVm p g kind ch gs (len-i) i t=R0)/\Hid (L.map Prod.snd++(aZb p g kind ch gs (len-i) i t).tail=V0))
 case atStart =>
  refine ⟨0,aDi p g c,M1,X',[(.slice (some ⟨gb,0,none⟩) c.length cap,aDi p g c)],some ⟨gb,0,none⟩,cap,none,0,A',k',by omega,rfl,rfl,rfl,rfl,HR3,OkT.start HM.out,rfl,List.mem_singleton.2 rfl,HR0,?_⟩
  show [aDi p g c]++_=_
  have hv:=HV0.out;rw [<- hv,Nat.sub_zero];cases len <;> rfl
 case round =>
  clear HR3;obtain ⟨i,t,M,X,L,Av,kv,A1,k1,A2,k2,hi,rfl,rfl,rfl,rfl,HRI,HOK,HCL',HMEM,HRES,HVIS⟩:=hrel;have HMT:=aA0 HOK.out.mem;obtain ⟨hb1,hb2,hb3⟩:=HALW.out t.last HMT.out;have HEN:=aA0 (aG9 HMT.out)
  by_cases hlt:i<len
  .have hd0:decide (i<len)=true:=by simpa using hlt
   have hsub:len-i=(len-(i+1))+1:=by omega
   have hres:=HRES.out;have hvis:=HVIS.out
   have HLL:Hid ((s0++L).length<=300):=by
    have h1:=congrArg List.length hvis;have h2:=bDr p g kind ch gs len 0 (aDi p g c);rw [HV0.out] at h2;rw [List.length_append,List.length_map] at h1;show _<=_
    rw [List.length_append];omega
   rw [hsub] at hres hvis;have HT:Hid (∀ W,Bel wr W->True):=fun _ _=>trivial;obtain ⟨E,hE⟩:∃ E,E=aAe p g t.last:=⟨_,rfl⟩;have hEN:=HEN.out;rw [<- hE] at hb1 hb2 hb3 hEN ⊢;obtain ⟨S,hSd⟩:∃ S,S=ch i E:=⟨_,rfl⟩;have HSL:Hid (S<4294967296):=by show _<_;rw [hSd];exact HCL.out _ _ hEN
   have HCC:Hid (∀ W,Rc W->aDl W->Calls prog fc (#[.int .i64 (i:Int),.int .u32 (E:Int)]++capsC) W fun e W'=>e = .returned (.tuple #[.int .u32 (S:Int),.bool (gs i E)])/\Bel W W'):=fun W h1 h2=>by rw [hSd];exact HCH.out W i E h1 h2 hlt hEN
   have HEW:Hid (∀ v,E.testBit v=true->v<g.ports.length):=fun v hv=>bC8 hEN hv;have HSD:=aA0 hSd;have HEE:=aA0 hE;clear hEN hSd HCH HEN HCL hE;cases hgo:gs i E with
   | false =>
    have hst:=bJb (p:=p) (g:=g) (kind:=kind) (ch:=ch) (gs:=gs) (n:=len-(i+1)) (i:=i) (t:=t) (by rw [<- HEE.out];exact hgo)
    rw [hst.1] at hres;rw [hst.2] at hvis;have HRES:=aA0 hres;have HVIS:=aA0 hvis;clear hst hres hvis
    go_upto_region 21 with (refine (HCC.out _ HRI.out.rd.here.2.2.2 HRI.out.rd.here.2.2.1).mono ?_;rintro e w1 ⟨rfl,hb⟩;rw [hgo];replace HRI:=aA0 (HRI.out.bel HS.out hb);clear hb;have r0:=HRI.out.rbox.cell 0 (v := .pointer (some ⟨B,0,none⟩)) rfl;have r1:=HRI.out.rbox.cell 1 (v := .slice A g.ports.length cn) rfl;have r2:=HRI.out.rbox.cell 2 (v := .int .i64 kind) rfl;have rl:=HRI.out.rbox.lt)
    (try clear r0 r1 r2 r3 r4 rl)
    have c0:=HRI.out.cnt.cell 0 (v := .int .i64 t.count.steps) rfl;have c1:=HRI.out.cnt.cell 1 (v := .int .i64 t.count.moves) rfl;have c2:=HRI.out.cnt.cell 2 (v := .int .i64 t.count.rounds) rfl;have c3:=HRI.out.cnt.cell 3 (v := .int .i64 t.count.begun) rfl;have c4:=HRI.out.cnt.cell 4 (v := .int .u32 (t.count.pending:Int)) rfl;have cl:=HRI.out.cnt.lt;have tf2:=HRI.out.tr.frozen 2;have tf3:=HRI.out.tr.frozen 3;have tf4:=HRI.out.tr.frozen 4;have tf5:=HRI.out.tr.frozen 5;have tf6:=HRI.out.tr.frozen 6;have tf7:=HRI.out.tr.frozen 7;have tz2:=HRI.out.tr.cell 2 (v := .slice none 0 0) rfl;have tz3:=HRI.out.tr.cell 3 (v := .int .i64 0) rfl;have tz4:=HRI.out.tr.cell 4 (v := .int .i64 0) rfl;have tz5:=HRI.out.tr.cell 5 (v := .int .i64 0) rfl;have tz6:=HRI.out.tr.cell 6 (v := .int .i64 0) rfl;have tz7:=HRI.out.tr.cell 7 (v := .int .u32 0) rfl;have tl:=HRI.out.tr.lt;have hcbx:=HRI.out.cbx
    go_cut [9] (fun _e9 wc=>wc=((((((w1.setCell ⟨w.heap.size+1+1,2,none⟩ (.slice Av t.last.length kv)).setCell ⟨w.heap.size+1+1,3,none⟩ (.int .i64 t.count.steps)).setCell ⟨w.heap.size+1+1,4,none⟩ (.int .i64 t.count.moves)).setCell ⟨w.heap.size+1+1,5,none⟩ (.int .i64 t.count.rounds)).setCell ⟨w.heap.size+1+1,6,none⟩ (.int .i64 t.count.begun)).setCell ⟨w.heap.size+1+1,7,none⟩ (.int .u32 (t.count.pending:Int))).drew)
    case first =>
     refine aFd.start (fun _:World=>True) [5] (by kernel_rfl) ?_
     have hHeld:(fun _:World=>True) w1.drew:=trivial
     (refine aFd.t (v:=?_) 0 99 rfl rfl (by kernel_rfl) (fun _ _ _ h=>h) hHeld (Or.inl ⟨by rfl,?_⟩) ?_;rotate_left 1;focus (intro w' hSw;(try dsimp only at hSw);go_simp;(try with_reducible rfl);done))
     refine aFd.two (i:=1) (j:=2) (by kernel_rfl) rfl rfl (fun K hK=>?_) (fun K hK=>?_)
     .skip
      go_simp
      refine hK.out _ _ (fun _=>trivial) ?_
      clear hK K
      (try simp only [Act.put,List.setIfInBounds_toArray,List.set_cons_zero,List.set_cons_succ])
      refine aFd.t (v:=?_) 2 101 rfl rfl (by kernel_rfl) (fun _ _ _ h=>h) trivial (Or.inl ⟨by rfl,?_⟩) ?_;rotate_left 1;focus (intro w' hSw;go_simp;(try with_reducible rfl);done)
      refine aFd.one (i:=3) (by kernel_rfl) rfl (fun K hK=>?_)
      go_simp
      refine hK.out _ _ (fun _=>trivial) ?_
      clear hK K
      (try simp only [Act.put,List.setIfInBounds_toArray,List.set_cons_zero,List.set_cons_succ])
      refine aFd.t (v:=?_) 4 102 rfl rfl (by kernel_rfl) (fun _ _ _ h=>h) trivial (Or.inl ⟨by rfl,?_⟩) ?_;rotate_left 1;focus (intro w' hSw;go_simp;(try with_reducible rfl);done)
      refine aFd.one (i:=5) (by kernel_rfl) rfl (fun K hK=>?_)
      go_simp
      refine hK.out _ _ (fun _=>trivial) ?_
      clear hK K;refine aFd.done (by kernel_rfl) ?_ _
      (try simp only [Act.put,List.setIfInBounds_toArray,List.set_cons_zero,List.set_cons_succ])
      go_wp2_with fail
      go_meet
      rfl
     .skip
      go_simp
      refine hK.out _ _ (fun _=>trivial) ?_
      clear hK K
      (try simp only [Act.put,List.setIfInBounds_toArray,List.set_cons_zero,List.set_cons_succ])
      refine aFd.two (i:=1) (j:=3) (by kernel_rfl) rfl rfl (fun K hK=>?_) (fun K hK=>?_)
      .skip
       go_simp
       refine hK.out _ _ (fun _=>trivial) ?_
       clear hK K
       (try simp only [Act.put,List.setIfInBounds_toArray,List.set_cons_zero,List.set_cons_succ])
       refine aFd.one (i:=3) (by kernel_rfl) rfl (fun K hK=>?_)
       go_simp
       refine hK.out _ _ (fun _=>trivial) ?_
       clear hK K
       (try simp only [Act.put,List.setIfInBounds_toArray,List.set_cons_zero,List.set_cons_succ])
       refine aFd.t (v:=?_) 4 102 rfl rfl (by kernel_rfl) (fun _ _ _ h=>h) trivial (Or.inl ⟨by rfl,?_⟩) ?_;rotate_left 1;focus (intro w' hSw;go_simp;(try with_reducible rfl);done)
       refine aFd.one (i:=5) (by kernel_rfl) rfl (fun K hK=>?_)
       go_simp
       refine hK.out _ _ (fun _=>trivial) ?_
       clear hK K;refine aFd.done (by kernel_rfl) ?_ _
       (try simp only [Act.put,List.setIfInBounds_toArray,List.set_cons_zero,List.set_cons_succ])
       go_wp2_with fail
       go_meet
       rfl
      .skip
       go_simp
       refine hK.out _ _ (fun _=>trivial) ?_
       clear hK K
       (try simp only [Act.put,List.setIfInBounds_toArray,List.set_cons_zero,List.set_cons_succ])
       refine aFd.one (i:=1) (by kernel_rfl) rfl (fun K hK=>?_)
       go_simp
       refine hK.out _ _ (fun _=>trivial) ?_
       clear hK K
       (try simp only [Act.put,List.setIfInBounds_toArray,List.set_cons_zero,List.set_cons_succ])
       refine aFd.t (v:=?_) 4 102 rfl rfl (by kernel_rfl) (fun _ _ _ h=>h) trivial (Or.inl ⟨by rfl,?_⟩) ?_;rotate_left 1;focus (intro w' hSw;go_simp;(try with_reducible rfl);done)
       refine aFd.one (i:=5) (by kernel_rfl) rfl (fun K hK=>?_)
       go_simp
       refine hK.out _ _ (fun _=>trivial) ?_
       clear hK K;refine aFd.done (by kernel_rfl) ?_ _
       (try simp only [Act.put,List.setIfInBounds_toArray,List.set_cons_zero,List.set_cons_succ])
       go_wp2_with fail
       go_meet
       rfl
    case rest =>
     subst hcut;have HTR2:Hid (Blk ((((((w1.setCell ⟨w.heap.size+1+1,2,none⟩ (.slice Av t.last.length kv)).setCell ⟨w.heap.size+1+1,3,none⟩ (.int .i64 t.count.steps)).setCell ⟨w.heap.size+1+1,4,none⟩ (.int .i64 t.count.moves)).setCell ⟨w.heap.size+1+1,5,none⟩ (.int .i64 t.count.rounds)).setCell ⟨w.heap.size+1+1,6,none⟩ (.int .i64 t.count.begun)).setCell ⟨w.heap.size+1+1,7,none⟩ (.int .u32 (t.count.pending:Int))).drew (w.heap.size+1+1) #[.slice A1 t.chosen.length k1,.slice A2 t.enabled.length k2,.slice Av t.last.length kv,.int .i64 t.count.steps,.int .i64 t.count.moves,.int .i64 t.count.rounds,.int .i64 t.count.begun,.int .u32 (t.count.pending:Int)] 70):=((((((HRI.out.tr.set 2 _).set 3 _).set 4 _).set 5 _).set 6 _).set 7 _).drew;have HRB:Hid (Blk ((((((w1.setCell ⟨w.heap.size+1+1,2,none⟩ (.slice Av t.last.length kv)).setCell ⟨w.heap.size+1+1,3,none⟩ (.int .i64 t.count.steps)).setCell ⟨w.heap.size+1+1,4,none⟩ (.int .i64 t.count.moves)).setCell ⟨w.heap.size+1+1,5,none⟩ (.int .i64 t.count.rounds)).setCell ⟨w.heap.size+1+1,6,none⟩ (.int .i64 t.count.begun)).setCell ⟨w.heap.size+1+1,7,none⟩ (.int .u32 (t.count.pending:Int))).drew (w.heap.size+1) (aEn (.slice none 0 0) (.slice none 0 0)) 70):=((((((HRI.out.rres.other (by simp) _).other (by simp) _).other (by simp) _).other (by simp) _).other (by simp) _).other (by simp) _).drew
     have HAG:Hid (Agr (fun k=>k=w.heap.size+1∨k=w.heap.size+1+1) w1 ((((((w1.setCell ⟨w.heap.size+1+1,2,none⟩ (.slice Av t.last.length kv)).setCell ⟨w.heap.size+1+1,3,none⟩ (.int .i64 t.count.steps)).setCell ⟨w.heap.size+1+1,4,none⟩ (.int .i64 t.count.moves)).setCell ⟨w.heap.size+1+1,5,none⟩ (.int .i64 t.count.rounds)).setCell ⟨w.heap.size+1+1,6,none⟩ (.int .i64 t.count.begun)).setCell ⟨w.heap.size+1+1,7,none⟩ (.int .u32 (t.count.pending:Int))).drew):=((((((Agr.setCell (E:=fun k=>k=w.heap.size+1∨k=w.heap.size+1+1) w1 ⟨w.heap.size+1+1,2,none⟩ _ (.inr rfl)).trans (Agr.setCell _ ⟨w.heap.size+1+1,3,none⟩ _ (.inr rfl))).trans (Agr.setCell _ ⟨w.heap.size+1+1,4,none⟩ _ (.inr rfl))).trans (Agr.setCell _ ⟨w.heap.size+1+1,5,none⟩ _ (.inr rfl))).trans (Agr.setCell _ ⟨w.heap.size+1+1,6,none⟩ _ (.inr rfl))).trans (Agr.setCell _ ⟨w.heap.size+1+1,7,none⟩ _ (.inr rfl))).drew;generalize ((((((w1.setCell ⟨w.heap.size+1+1,2,none⟩ (.slice Av t.last.length kv)).setCell ⟨w.heap.size+1+1,3,none⟩ (.int .i64 t.count.steps)).setCell ⟨w.heap.size+1+1,4,none⟩ (.int .i64 t.count.moves)).setCell ⟨w.heap.size+1+1,5,none⟩ (.int .i64 t.count.rounds)).setCell ⟨w.heap.size+1+1,6,none⟩ (.int .i64 t.count.begun)).setCell ⟨w.heap.size+1+1,7,none⟩ (.int .u32 (t.count.pending:Int))).drew=WF at *;clear c0 c1 c2 c3 c4 cl tf2 tf3 tf4 tf5 tf6 tf7 tz2 tz3 tz4 tz5 tz6 tz7 tl hcbx;have c0:=HTR2.out.cell 0 (v := .slice A1 t.chosen.length k1) rfl;have c1:=HTR2.out.cell 1 (v := .slice A2 t.enabled.length k2) rfl;have c2:=HTR2.out.cell 2 (v := .slice Av t.last.length kv) rfl;have c3:=HTR2.out.cell 3 (v := .int .i64 t.count.steps) rfl;have c4:=HTR2.out.cell 4 (v := .int .i64 t.count.moves) rfl;have c5:=HTR2.out.cell 5 (v := .int .i64 t.count.rounds) rfl;have c6:=HTR2.out.cell 6 (v := .int .i64 t.count.begun) rfl;have c7:=HTR2.out.cell 7 (v := .int .u32 (t.count.pending:Int)) rfl;have cl:=HTR2.out.lt;have z0:=HRB.out.cell 0 (v := .slice none 0 0) rfl;have f0:=HRB.out.frozen 0;have z1:=HRB.out.cell 1 (v := .slice none 0 0) rfl;have f1:=HRB.out.frozen 1;have z2:=HRB.out.cell 2 (v := .slice none 0 0) rfl;have f2:=HRB.out.frozen 2;have z3:=HRB.out.cell 3 (v := .int .i64 0) rfl;have f3:=HRB.out.frozen 3;have z4:=HRB.out.cell 4 (v := .int .i64 0) rfl;have f4:=HRB.out.frozen 4;have z5:=HRB.out.cell 5 (v := .int .i64 0) rfl;have f5:=HRB.out.frozen 5;have z6:=HRB.out.cell 6 (v := .int .i64 0) rfl;have f6:=HRB.out.frozen 6;have z7:=HRB.out.cell 7 (v := .int .u32 0) rfl;have f7:=HRB.out.frozen 7;have zl:=HRB.out.lt;have hRR:R0=some t:=HRES.out.symm;have hVV:L.map Prod.snd=V0:=by have:=HVIS.out;simpa using this
     have HRR:=aA0 hRR;have HVV:=aA0 hVV;clear hRR hVV
     go_wp2_with fail
     have HR9:Blk ((((((((WF.setCell ⟨w.heap.size+1,0,none⟩ (.slice A1 t.chosen.length k1)).setCell ⟨w.heap.size+1,1,none⟩ (.slice A2 t.enabled.length k2)).setCell ⟨w.heap.size+1,2,none⟩ (.slice Av t.last.length kv)).setCell ⟨w.heap.size+1,3,none⟩ (.int .i64 t.count.steps)).setCell ⟨w.heap.size+1,4,none⟩ (.int .i64 t.count.moves)).setCell ⟨w.heap.size+1,5,none⟩ (.int .i64 t.count.rounds)).setCell ⟨w.heap.size+1,6,none⟩ (.int .i64 t.count.begun)).setCell ⟨w.heap.size+1,7,none⟩ (.int .u32 (t.count.pending:Int))) (w.heap.size+1) #[.slice A1 t.chosen.length k1,.slice A2 t.enabled.length k2,.slice Av t.last.length kv,.int .i64 t.count.steps,.int .i64 t.count.moves,.int .i64 t.count.rounds,.int .i64 t.count.begun,.int .u32 (t.count.pending:Int)] 70:=((((((((HRB.out.set 0 _).set 1 _).set 2 _).set 3 _).set 4 _).set 5 _).set 6 _).set 7 _);have y0:=HR9.cell 0 (v := .slice A1 t.chosen.length k1) rfl;have y1:=HR9.cell 1 (v := .slice A2 t.enabled.length k2) rfl;have y2:=HR9.cell 2 (v := .slice Av t.last.length kv) rfl;have y3:=HR9.cell 3 (v := .int .i64 t.count.steps) rfl;have y4:=HR9.cell 4 (v := .int .i64 t.count.moves) rfl;have y5:=HR9.cell 5 (v := .int .i64 t.count.rounds) rfl;have y6:=HR9.cell 6 (v := .int .i64 t.count.begun) rfl;have y7:=HR9.cell 7 (v := .int .u32 (t.count.pending:Int)) rfl;refine bodyPost_ret (v := .tuple #[.agg #[.slice A1 t.chosen.length k1,.slice A2 t.enabled.length k2,.slice Av t.last.length kv,.int .i64 t.count.steps,.int .i64 t.count.moves,.int .i64 t.count.rounds,.int .i64 t.count.begun,.int .u32 (t.count.pending:Int)],.int .i64 0]) (by simp [results,Tryz.results94,go_sem,y0,y1,y2,y3,y4,y5,y6,y7];try go_simp) rfl ?_
     obtain ⟨q1,q2,q3,q4,q5,q6,q7,q8,q9⟩:=HRI.out.finish HS.out (((((((((HAG.out).trans (Agr.setCell _ ⟨w.heap.size+1,0,none⟩ _ (.inl rfl))).trans (Agr.setCell _ ⟨w.heap.size+1,1,none⟩ _ (.inl rfl))).trans (Agr.setCell _ ⟨w.heap.size+1,2,none⟩ _ (.inl rfl))).trans (Agr.setCell _ ⟨w.heap.size+1,3,none⟩ _ (.inl rfl))).trans (Agr.setCell _ ⟨w.heap.size+1,4,none⟩ _ (.inl rfl))).trans (Agr.setCell _ ⟨w.heap.size+1,5,none⟩ _ (.inl rfl))).trans (Agr.setCell _ ⟨w.heap.size+1,6,none⟩ _ (.inl rfl))).trans (Agr.setCell _ ⟨w.heap.size+1,7,none⟩ _ (.inl rfl)));exact ⟨⟨M,L,_,q1,HVV.out,q2,by rw [HRR.out];rfl,by rw [HRR.out];exact fun V hV=>⟨A1,k1,A2,k2,Av,kv,rfl,q3 V hV,q6,q7,q4 V hV,q8,q9,q2 _ HMEM.out V hV⟩,HRI.out.sup,HRI.out.newM⟩,q5⟩
   | true =>
    cases hpm:aAk g kind E S with
    | false =>
     have hst:=bMe (p:=p) (g:=g) (kind:=kind) (ch:=ch) (gs:=gs) (n:=len-(i+1)) (i:=i) (t:=t) (by rw [<- HEE.out];exact hgo) (by rw [<- HEE.out,<- HSD.out];exact hpm)
     rw [hst.1] at hres;rw [hst.2] at hvis;have HRES:=aA0 hres;have HVIS:=aA0 hvis;clear hst hres hvis
     go_wp2_with (first | (refine (HCC.out _ HRI.out.rd.here.2.2.2 HRI.out.rd.here.2.2.1).mono ?_;rintro e w1 ⟨rfl,hb⟩;rw [hgo];replace HRI:=aA0 (HRI.out.bel HS.out hb);clear hb;have r0:=HRI.out.rbox.cell 0 (v := .pointer (some ⟨B,0,none⟩)) rfl;have r1:=HRI.out.rbox.cell 1 (v := .slice A g.ports.length cn) rfl;have r2:=HRI.out.rbox.cell 2 (v := .int .i64 kind) rfl;have rl:=HRI.out.rbox.lt) | (go_at_call 124;refine (aIf A cn g kind E S _ HRI.out.rd.here.2.1 HRI.out.rd.here.2.2.1 hb2 HSL.out HEW.out HG.out).mono ?_;rintro e w2 ⟨rfl,hb⟩;rw [hpm];replace HRI:=aA0 (HRI.out.bel HS.out hb);clear hb r0 r1 r2 rl;have r0:=HRI.out.rbox.cell 0 (v := .pointer (some ⟨B,0,none⟩)) rfl;have r1:=HRI.out.rbox.cell 1 (v := .slice A g.ports.length cn) rfl;have r2:=HRI.out.rbox.cell 2 (v := .int .i64 kind) rfl;have rl:=HRI.out.rbox.lt;have z0:=HRI.out.rres.cell 0 (v := .slice none 0 0) rfl;have f0:=HRI.out.rres.frozen 0;have z1:=HRI.out.rres.cell 1 (v := .slice none 0 0) rfl;have f1:=HRI.out.rres.frozen 1;have z2:=HRI.out.rres.cell 2 (v := .slice none 0 0) rfl;have f2:=HRI.out.rres.frozen 2;have z3:=HRI.out.rres.cell 3 (v := .int .i64 0) rfl;have f3:=HRI.out.rres.frozen 3;have z4:=HRI.out.rres.cell 4 (v := .int .i64 0) rfl;have f4:=HRI.out.rres.frozen 4;have z5:=HRI.out.rres.cell 5 (v := .int .i64 0) rfl;have f5:=HRI.out.rres.frozen 5;have z6:=HRI.out.rres.cell 6 (v := .int .i64 0) rfl;have f6:=HRI.out.rres.frozen 6;have z7:=HRI.out.rres.cell 7 (v := .int .u32 0) rfl;have f7:=HRI.out.rres.frozen 7))
     have HR9:Blk ((((((((w2.setCell ⟨w.heap.size+1,0,none⟩ (.slice none 0 0)).setCell ⟨w.heap.size+1,1,none⟩ (.slice none 0 0)).setCell ⟨w.heap.size+1,2,none⟩ (.slice none 0 0)).setCell ⟨w.heap.size+1,3,none⟩ (.int .i64 0)).setCell ⟨w.heap.size+1,4,none⟩ (.int .i64 0)).setCell ⟨w.heap.size+1,5,none⟩ (.int .i64 0)).setCell ⟨w.heap.size+1,6,none⟩ (.int .i64 0)).setCell ⟨w.heap.size+1,7,none⟩ (.int .u32 0)) (w.heap.size+1) #[.slice none 0 0,.slice none 0 0,.slice none 0 0,.int .i64 0,.int .i64 0,.int .i64 0,.int .i64 0,.int .u32 0] 70:=((((((((HRI.out.rres.set 0 _).set 1 _).set 2 _).set 3 _).set 4 _).set 5 _).set 6 _).set 7 _);have y0:=HR9.cell 0 (v := .slice none 0 0) rfl;have y1:=HR9.cell 1 (v := .slice none 0 0) rfl;have y2:=HR9.cell 2 (v := .slice none 0 0) rfl;have y3:=HR9.cell 3 (v := .int .i64 0) rfl;have y4:=HR9.cell 4 (v := .int .i64 0) rfl;have y5:=HR9.cell 5 (v := .int .i64 0) rfl;have y6:=HR9.cell 6 (v := .int .i64 0) rfl;have y7:=HR9.cell 7 (v := .int .u32 0) rfl;refine bodyPost_ret (v := .tuple #[.agg #[.slice none 0 0,.slice none 0 0,.slice none 0 0,.int .i64 0,.int .i64 0,.int .i64 0,.int .i64 0,.int .u32 0],.int .i64 11]) (by simp [results,Tryz.results94,go_sem,y0,y1,y2,y3,y4,y5,y6,y7];try go_simp) rfl ?_
     obtain ⟨q1,q2,q3,q4,q5,_⟩:=HRI.out.finish HS.out ((((((((Agr.setCell (E:=fun k=>k=w.heap.size+1∨k=w.heap.size+1+1) w2 ⟨w.heap.size+1,0,none⟩ _ (.inl rfl)).trans (Agr.setCell _ ⟨w.heap.size+1,1,none⟩ _ (.inl rfl))).trans (Agr.setCell _ ⟨w.heap.size+1,2,none⟩ _ (.inl rfl))).trans (Agr.setCell _ ⟨w.heap.size+1,3,none⟩ _ (.inl rfl))).trans (Agr.setCell _ ⟨w.heap.size+1,4,none⟩ _ (.inl rfl))).trans (Agr.setCell _ ⟨w.heap.size+1,5,none⟩ _ (.inl rfl))).trans (Agr.setCell _ ⟨w.heap.size+1,6,none⟩ _ (.inl rfl))).trans (Agr.setCell _ ⟨w.heap.size+1,7,none⟩ _ (.inl rfl)));exact ⟨⟨M,L,_,q1,by have:=HVIS.out;simpa using this,q2,by rw [<- HRES.out];rfl,by rw [<- HRES.out];exact fun V _=>aKu.zero V,HRI.out.sup,HRI.out.newM⟩,q5⟩
    | true =>
     have hst:=bOh (p:=p) (g:=g) (kind:=kind) (ch:=ch) (gs:=gs) (n:=len-(i+1)) (i:=i) (t:=t) (by rw [<- HEE.out];exact hgo) (by rw [<- HEE.out,<- HSD.out];exact hpm)
     rw [hst.1,<- HEE.out,<- HSD.out] at hres;rw [hst.2,<- HEE.out,<- HSD.out] at hvis;have HRES:=aA0 hres;have HVIS:=aA0 hvis;have HPM:Hid (aAk g kind (aAe p g t.last) S=true):=by show _=_;rw [<- HEE.out];exact hpm
     obtain ⟨s1,s2⟩:=aT3 HSL.out hb3 hpm
     have HEN3:Hid (∀ v,v<t.last.length->S.testBit v=true->0<=aAm p.rules g t.last v):=fun v hv hb=>by
      have h4:=aAi.1 (aBh HPM.out).2 v (aIp HSL.out hb) hb;rw [aDs] at h4;simp at h4
      exact h4.2
     have HMD:Hid (aC4 p g (aAf p g t.last S)=0):=aKn HMT.out HEN3.out;have HOK2:=aA0 (HOK.out.next HSL.out HPM.out);clear hst hres hvis
     go_upto_region 15 with (first | (refine (HCC.out _ HRI.out.rd.here.2.2.2 HRI.out.rd.here.2.2.1).mono ?_;rintro e w1 ⟨rfl,hb⟩;rw [hgo];replace HRI:=aA0 (HRI.out.bel HS.out hb);clear hb;have r0:=HRI.out.rbox.cell 0 (v := .pointer (some ⟨B,0,none⟩)) rfl;have r1:=HRI.out.rbox.cell 1 (v := .slice A g.ports.length cn) rfl;have r2:=HRI.out.rbox.cell 2 (v := .int .i64 kind) rfl;have rl:=HRI.out.rbox.lt) | (go_at_call 124;refine (aIf A cn g kind E S _ HRI.out.rd.here.2.1 HRI.out.rd.here.2.2.1 hb2 HSL.out HEW.out HG.out).mono ?_;rintro e w2 ⟨rfl,hb⟩;rw [hpm];replace HRI:=aA0 (HRI.out.bel HS.out hb);clear hb r0 r1 r2 rl;have r0:=HRI.out.rbox.cell 0 (v := .pointer (some ⟨B,0,none⟩)) rfl;have r1:=HRI.out.rbox.cell 1 (v := .slice A g.ports.length cn) rfl;have r2:=HRI.out.rbox.cell 2 (v := .int .i64 kind) rfl;have rl:=HRI.out.rbox.lt) | (go_at_call 135;refine (aSd B p g _ t.last S _ HRI.out.rd.here.1 (HRI.out.confs _ HMEM.out).here HMT.out HSL.out HEN3.out HL.out (aNk HMT.out HL.out)).mono ?_;rintro e w3 ⟨gc,cap,hs,rfl,hO,hsn,hb⟩;have HKX:=aA0 (And.intro HRI.out.xlt (Nat.le_of_lt HRI.out.rbox.lt));replace HRI:=aA0 (HRI.out.bel HS.out hb);replace HRI:=aA0 (HRI.out.more (R:=fun V=>aD2 V (.slice (some ⟨gc,0,none⟩) (aAf p g t.last S).length cap) (aAf p g t.last S)) (HRI.out.newR HKX.out.1 HKX.out.2 (fun V hV=>hO.newC hsn hV)));clear hb hO hsn HKX r0 r1 r2 rl))
     have HSEE:Hid (∀ (W:World),Inv M (s0++L) W->aD2 W (.slice (some ⟨gc,0,none⟩) (aAf p g t.last S).length cap) (aAf p g t.last S)->Calls prog fs (#[.slice (some ⟨gc,0,none⟩) (aAf p g t.last S).length cap,.int .u32 (aAe p g (aAf p g t.last S):Nat),.agg #[.int .i64 (bGl t.count S (aAe p g (aAf p g t.last S))).steps,.int .i64 (bGl t.count S (aAe p g (aAf p g t.last S))).moves,.int .i64 (bGl t.count S (aAe p g (aAf p g t.last S))).rounds,.int .i64 (bGl t.count S (aAe p g (aAf p g t.last S))).begun,.int .u32 ((bGl t.count S (aAe p g (aAf p g t.last S))).pending:Int)]]++capsS) W fun e w' =>
       (∃ x,e = .returned x)/\∃ M',Inv M' (s0++L++[(.slice (some ⟨gc,0,none⟩) (aAf p g t.last S).length cap,aIx p g t S)]) w'/\Agr M W w'/\(∀ k,M k->M' k)/\∀ k,M' k->M k∨W.heap.size<=k):=fun W hi hc=>HS.out.call M (s0++L) W _ (aIx p g t S) HLL.out hi hc HOK2.out
     have HT2:Hid ((aIx p g t S).last=aAf p g t.last S/\(aIx p g t S).count=bGl t.count S (aAe p g (aAf p g t.last S))/\(aIx p g t S).chosen=t.chosen++[S]/\(aIx p g t S).enabled=t.enabled++[aAe p g (aAf p g t.last S)]):=⟨rfl,rfl,rfl,rfl⟩;have HOKK:Hid (OkK t.count i):=by have:=HOK.out.count;rw [HCL'.out] at this;exact this
     clear HEE HSD HEN3 HCC HPM;generalize hd:aAf p g t.last S=d at *;have HD:=aA0 hd;clear hd;obtain ⟨e1,e2,e3⟩:=HALW.out d HMD.out;have hcell:=aA0 (fun w' (k:Bel w3 w')=>show w'.cell? ⟨w.heap.size,0,none⟩=some (.pointer (some ⟨B,0,none⟩))/\w'.cell? ⟨w.heap.size,3,none⟩=some (.int .u32 (AL:Int))/\w.heap.size<w'.heap.size from ⟨(HRI.out.rbox.keep k).cell 0 rfl,(HRI.out.rbox.keep k).cell 3 rfl,(HRI.out.rbox.keep k).lt⟩)
     have HMV:=aA0 (fun w' (k:Bel w3 w')=>((HRI.out.bel HS.out k).rd.here).1);have HCV:=aA0 (fun w' (k:Bel w3 w')=>(HRI.out.bel HS.out k).ext.here);have HB:=(Bel.refl w3).drew
     go_region_held3 (fun w'=>w'.cell? ⟨w.heap.size,0,none⟩=some (.pointer (some ⟨B,0,none⟩))/\w'.cell? ⟨w.heap.size,3,none⟩=some (.int .u32 (AL:Int))/\w.heap.size<w'.heap.size) (exact hcell.out _ HB) (first | (go_simp;go_at_call 133;refine (aIs B p g _ d _ (HMV.out _ HB) (HCV.out _ HB) HMD.out HL.out).mono ?_;rintro e w2 ⟨rfl,hb2⟩;replace HB:=HB.trans hb2;clear hb2))
     generalize hE2:aAe p g d=E2 at *;have HE2:=aA0 hE2;clear hE2 hcell HMV HCV;generalize hkc:bGl t.count S E2=kc at *;have HKC:=aA0 hkc;clear hkc;replace HRI:=aA0 (HRI.out.bel HS.out HB);clear HB;have c0:=HRI.out.cnt.cell 0 (v := .int .i64 t.count.steps) rfl;have c1:=HRI.out.cnt.cell 1 (v := .int .i64 t.count.moves) rfl;have c2:=HRI.out.cnt.cell 2 (v := .int .i64 t.count.rounds) rfl;have c3:=HRI.out.cnt.cell 3 (v := .int .i64 t.count.begun) rfl;have c4:=HRI.out.cnt.cell 4 (v := .int .u32 (t.count.pending:Int)) rfl;have cl:=HRI.out.cnt.lt;have hcbx:=HRI.out.cbx
     go_upto_region 17 with (go_at_call 136;refine (aZn t.count i S E2 _ HOKK.out (by omega) s1 s2 e3).mono ?_;rintro e w5 ⟨rfl,hb5⟩;rw [HKC.out,show aWt kc = .agg #[.int .i64 kc.steps,.int .i64 kc.moves,.int .i64 kc.rounds,.int .i64 kc.begun,.int .u32 (kc.pending:Int)] from rfl];replace HRI:=aA0 (HRI.out.bel HS.out hb5);clear hb5 c0 c1 c2 c3 c4 cl;have c0:=HRI.out.cnt.cell 0 (v := .int .i64 t.count.steps) rfl;have c1:=HRI.out.cnt.cell 1 (v := .int .i64 t.count.moves) rfl;have c2:=HRI.out.cnt.cell 2 (v := .int .i64 t.count.rounds) rfl;have c3:=HRI.out.cnt.cell 3 (v := .int .i64 t.count.begun) rfl;have c4:=HRI.out.cnt.cell 4 (v := .int .u32 (t.count.pending:Int)) rfl;have cl:=HRI.out.cnt.lt;have cf0:=HRI.out.cnt.frozen 0;have cf1:=HRI.out.cnt.frozen 1;have cf2:=HRI.out.cnt.frozen 2;have cf3:=HRI.out.cnt.frozen 3;have cf4:=HRI.out.cnt.frozen 4)
     obtain ⟨X2,hX2⟩:=HRI.out.count (kc':=kc) HS.out;have HR6:=aA0 hX2;clear hX2 c0 c1 c2 c3 c4 cl cf0 cf1 cf2 cf3 cf4;generalize (((((w5.setCell ⟨cb,0,none⟩ (.int .i64 kc.steps)).setCell ⟨cb,1,none⟩ (.int .i64 kc.moves)).setCell ⟨cb,2,none⟩ (.int .i64 kc.rounds)).setCell ⟨cb,3,none⟩ (.int .i64 kc.begun)).setCell ⟨cb,4,none⟩ (.int .u32 (kc.pending:Int)))=W6 at *;have c0:=HR6.out.cnt.cell 0 (v := .int .i64 kc.steps) rfl;have c1:=HR6.out.cnt.cell 1 (v := .int .i64 kc.moves) rfl;have c2:=HR6.out.cnt.cell 2 (v := .int .i64 kc.rounds) rfl;have c3:=HR6.out.cnt.cell 3 (v := .int .i64 kc.begun) rfl;have c4:=HR6.out.cnt.cell 4 (v := .int .u32 (kc.pending:Int)) rfl;have cl:=HR6.out.cnt.lt;have r4:=HR6.out.rbox.cell 4 (v := .func (.func fs) #[] capsS) rfl;have rl:=HR6.out.rbox.lt
     go_upto_region 18 with (refine (HSEE.out _ HR6.out.inv HR6.out.ext.here).mono ?_;rintro e w6 ⟨⟨x2,rfl⟩,M2,hI2,hA2,hG2,hM2⟩;have HR7:=aA0 (HR6.out.see HS.out hA2 hG2 hM2 hI2 (HR6.out.ext.imp fun _ h=>by rw [HT2.out.1];exact h));clear hI2 hA2 hG2 hM2 c0 c1 c2 c3 c4 cl r4 rl)
     have t0:=HR7.out.tr.cell 0 (v := .slice A1 t.chosen.length k1) rfl;have tl:=HR7.out.tr.lt;have HKB:Hid (t.chosen.length<=120/\t.enabled.length<=121):=⟨by rw [HCL'.out];omega,by rw [HOK.out.len,HCL'.out];omega⟩
     obtain ⟨hk1,hk2⟩:=HKB.out
     go_upto_region 19 with (at_builtin;go_must (refine aBr _ rfl (.tmp 87) (.tmp 89) 39 rfl (w.heap.size+1+1+1) 46 i0 (.int .u32 0) 1 4 underlying39 hi0 hz0 hz1 hz2 rfl (by decide) A1 t.chosen.length k1 (t.chosen.map aGa) rfl (HR7.out.row1.alloc _) w6.heap.size #[.int .u32 (S:Int)] 46 (0,0) rfl (aAx _ _) rfl (aMx _) (by unfold maxLen;omega) (by omega) (by have:=HR7.out.tr.lt;simp;omega) ?_);intro A1' k1' w7 hown hgr hat;have HQ:=aA0 (HR7.out.mid1 hgr);obtain ⟨X3,hX'⟩:=HR7.out.push1 (l1:=t.chosen) (S:=S) HS.out hown hgr hat;have HR8:=aA0 hX';clear t0 tl hX' hown hgr hat;have t0:=HQ.out.cell 0 (v := .slice A1 t.chosen.length k1) rfl;have tl:=HQ.out.lt;have tf0:=HQ.out.frozen 0;clear HQ)
     clear t0 tl tf0;generalize w7.setCell ⟨w.heap.size+1+1,0,none⟩ (.slice A1' (t.chosen.length+1) k1')=W7 at *;have t1:=HR8.out.tr.cell 1 (v := .slice A2 t.enabled.length k2) rfl;have tl:=HR8.out.tr.lt
     go_upto_region 20 with (at_builtin;go_must (refine aBr _ rfl (.tmp 93) (.tmp 95) 39 rfl (w.heap.size+1+1+1) 46 i0 (.int .u32 0) 1 4 underlying39 hi0 hz0 hz1 hz2 rfl (by decide) A2 t.enabled.length k2 (t.enabled.map aGa) rfl (HR8.out.row2.alloc _) W7.heap.size #[.int .u32 (E2:Int)] 46 (0,0) rfl (aAx _ _) rfl (aMx _) (by unfold maxLen;omega) (by omega) (by have:=HR8.out.tr.lt;simp;omega) ?_);intro A2' k2' w8 hown hgr hat;have HQ:=aA0 (HR8.out.mid2 hgr);obtain ⟨X4,hX'⟩:=HR8.out.push2 (l2:=t.enabled) (S:=E2) HS.out hown hgr hat;have HR9:=aA0 hX';clear t1 tl hX' hown hgr hat;have t1:=HQ.out.cell 1 (v := .slice A2 t.enabled.length k2) rfl;have tl:=HQ.out.lt;have tf1:=HQ.out.frozen 1;clear HQ)
     clear t1 tl tf1;generalize w8.setCell ⟨w.heap.size+1+1,1,none⟩ (.slice A2' (t.enabled.length+1) k2')=W8 at *
     go_wp2_with fail
     go_roundg (len-(i+1))
     case rel =>
      refine ⟨i+1,aIx p g t S,M2,X4,L++[(.slice (some ⟨gc,0,none⟩) d.length cap,aIx p g t S)],some ⟨gc,0,none⟩,cap,A1',k1',A2',k2',by omega,rfl,by rw [HT2.out.1],by rw [HT2.out.1,HE2.out],by go_num,?_,HOK2,?_,?_,HRES,?_⟩
      .show RunI _ _ _ _ _ _ _ _ _ _ _ _ _ _ _ _ _ _ _ _
       rw [HT2.out.2.2.1,HT2.out.2.2.2,HT2.out.2.1];exact HR9.out.less
      .show _=_
       rw [HT2.out.2.2.1];simp [HCL'.out]
      .show _∈_
       rw [HT2.out.1];exact List.mem_append_right _ (List.mem_singleton.2 rfl)
      .show _=_
       have:=HVIS.out;rw [List.map_append,List.append_assoc,<- this]
       congr 1
       show [aIx p g t S]++_=_
       rw [List.singleton_append,bK9];rfl
     case measure=>omega
  .have hd0:decide (i<len)=false:=by simpa using hlt
   obtain rfl:i=len:=by omega
   go_upto_region 21 with fail
   (try clear r0 r1 r2 r3 r4 rl)
   have c0:=HRI.out.cnt.cell 0 (v := .int .i64 t.count.steps) rfl;have c1:=HRI.out.cnt.cell 1 (v := .int .i64 t.count.moves) rfl;have c2:=HRI.out.cnt.cell 2 (v := .int .i64 t.count.rounds) rfl;have c3:=HRI.out.cnt.cell 3 (v := .int .i64 t.count.begun) rfl;have c4:=HRI.out.cnt.cell 4 (v := .int .u32 (t.count.pending:Int)) rfl;have cl:=HRI.out.cnt.lt;have tf2:=HRI.out.tr.frozen 2;have tf3:=HRI.out.tr.frozen 3;have tf4:=HRI.out.tr.frozen 4;have tf5:=HRI.out.tr.frozen 5;have tf6:=HRI.out.tr.frozen 6;have tf7:=HRI.out.tr.frozen 7;have tz2:=HRI.out.tr.cell 2 (v := .slice none 0 0) rfl;have tz3:=HRI.out.tr.cell 3 (v := .int .i64 0) rfl;have tz4:=HRI.out.tr.cell 4 (v := .int .i64 0) rfl;have tz5:=HRI.out.tr.cell 5 (v := .int .i64 0) rfl;have tz6:=HRI.out.tr.cell 6 (v := .int .i64 0) rfl;have tz7:=HRI.out.tr.cell 7 (v := .int .u32 0) rfl;have tl:=HRI.out.tr.lt;have hcbx:=HRI.out.cbx
   go_cut [9] (fun _e9 wc=>wc=((((((wr.setCell ⟨w.heap.size+1+1,2,none⟩ (.slice Av t.last.length kv)).setCell ⟨w.heap.size+1+1,3,none⟩ (.int .i64 t.count.steps)).setCell ⟨w.heap.size+1+1,4,none⟩ (.int .i64 t.count.moves)).setCell ⟨w.heap.size+1+1,5,none⟩ (.int .i64 t.count.rounds)).setCell ⟨w.heap.size+1+1,6,none⟩ (.int .i64 t.count.begun)).setCell ⟨w.heap.size+1+1,7,none⟩ (.int .u32 (t.count.pending:Int))).drew)
   case first =>
    refine aFd.start (fun _:World=>True) [5] (by kernel_rfl) ?_
    have hHeld:(fun _:World=>True) wr.drew:=trivial
    (refine aFd.t (v:=?_) 0 99 rfl rfl (by kernel_rfl) (fun _ _ _ h=>h) hHeld (Or.inl ⟨by rfl,?_⟩) ?_;rotate_left 1;focus (intro w' hSw;(try dsimp only at hSw);go_simp;(try with_reducible rfl);done))
    refine aFd.two (i:=1) (j:=2) (by kernel_rfl) rfl rfl (fun K hK=>?_) (fun K hK=>?_)
    .skip
     go_simp
     refine hK.out _ _ (fun _=>trivial) ?_
     clear hK K
     (try simp only [Act.put,List.setIfInBounds_toArray,List.set_cons_zero,List.set_cons_succ])
     refine aFd.t (v:=?_) 2 101 rfl rfl (by kernel_rfl) (fun _ _ _ h=>h) trivial (Or.inl ⟨by rfl,?_⟩) ?_;rotate_left 1;focus (intro w' hSw;go_simp;(try with_reducible rfl);done)
     refine aFd.one (i:=3) (by kernel_rfl) rfl (fun K hK=>?_)
     go_simp
     refine hK.out _ _ (fun _=>trivial) ?_
     clear hK K
     (try simp only [Act.put,List.setIfInBounds_toArray,List.set_cons_zero,List.set_cons_succ])
     refine aFd.t (v:=?_) 4 102 rfl rfl (by kernel_rfl) (fun _ _ _ h=>h) trivial (Or.inl ⟨by rfl,?_⟩) ?_;rotate_left 1;focus (intro w' hSw;go_simp;(try with_reducible rfl);done)
     refine aFd.one (i:=5) (by kernel_rfl) rfl (fun K hK=>?_)
     go_simp
     refine hK.out _ _ (fun _=>trivial) ?_
     clear hK K;refine aFd.done (by kernel_rfl) ?_ _
     (try simp only [Act.put,List.setIfInBounds_toArray,List.set_cons_zero,List.set_cons_succ])
     go_wp2_with fail
     go_meet
     rfl
    .skip
     go_simp
     refine hK.out _ _ (fun _=>trivial) ?_
     clear hK K
     (try simp only [Act.put,List.setIfInBounds_toArray,List.set_cons_zero,List.set_cons_succ])
     refine aFd.two (i:=1) (j:=3) (by kernel_rfl) rfl rfl (fun K hK=>?_) (fun K hK=>?_)
     .skip
      go_simp
      refine hK.out _ _ (fun _=>trivial) ?_
      clear hK K
      (try simp only [Act.put,List.setIfInBounds_toArray,List.set_cons_zero,List.set_cons_succ])
      refine aFd.one (i:=3) (by kernel_rfl) rfl (fun K hK=>?_)
      go_simp
      refine hK.out _ _ (fun _=>trivial) ?_
      clear hK K
      (try simp only [Act.put,List.setIfInBounds_toArray,List.set_cons_zero,List.set_cons_succ])
      refine aFd.t (v:=?_) 4 102 rfl rfl (by kernel_rfl) (fun _ _ _ h=>h) trivial (Or.inl ⟨by rfl,?_⟩) ?_;rotate_left 1;focus (intro w' hSw;go_simp;(try with_reducible rfl);done)
      refine aFd.one (i:=5) (by kernel_rfl) rfl (fun K hK=>?_)
      go_simp
      refine hK.out _ _ (fun _=>trivial) ?_
      clear hK K;refine aFd.done (by kernel_rfl) ?_ _
      (try simp only [Act.put,List.setIfInBounds_toArray,List.set_cons_zero,List.set_cons_succ])
      go_wp2_with fail
      go_meet
      rfl
     .skip
      go_simp
      refine hK.out _ _ (fun _=>trivial) ?_
      clear hK K
      (try simp only [Act.put,List.setIfInBounds_toArray,List.set_cons_zero,List.set_cons_succ])
      refine aFd.one (i:=1) (by kernel_rfl) rfl (fun K hK=>?_)
      go_simp
      refine hK.out _ _ (fun _=>trivial) ?_
      clear hK K
      (try simp only [Act.put,List.setIfInBounds_toArray,List.set_cons_zero,List.set_cons_succ])
      refine aFd.t (v:=?_) 4 102 rfl rfl (by kernel_rfl) (fun _ _ _ h=>h) trivial (Or.inl ⟨by rfl,?_⟩) ?_;rotate_left 1;focus (intro w' hSw;go_simp;(try with_reducible rfl);done)
      refine aFd.one (i:=5) (by kernel_rfl) rfl (fun K hK=>?_)
      go_simp
      refine hK.out _ _ (fun _=>trivial) ?_
      clear hK K;refine aFd.done (by kernel_rfl) ?_ _
      (try simp only [Act.put,List.setIfInBounds_toArray,List.set_cons_zero,List.set_cons_succ])
      go_wp2_with fail
      go_meet
      rfl
   case rest =>
    subst hcut;have HTR2:Hid (Blk ((((((wr.setCell ⟨w.heap.size+1+1,2,none⟩ (.slice Av t.last.length kv)).setCell ⟨w.heap.size+1+1,3,none⟩ (.int .i64 t.count.steps)).setCell ⟨w.heap.size+1+1,4,none⟩ (.int .i64 t.count.moves)).setCell ⟨w.heap.size+1+1,5,none⟩ (.int .i64 t.count.rounds)).setCell ⟨w.heap.size+1+1,6,none⟩ (.int .i64 t.count.begun)).setCell ⟨w.heap.size+1+1,7,none⟩ (.int .u32 (t.count.pending:Int))).drew (w.heap.size+1+1) #[.slice A1 t.chosen.length k1,.slice A2 t.enabled.length k2,.slice Av t.last.length kv,.int .i64 t.count.steps,.int .i64 t.count.moves,.int .i64 t.count.rounds,.int .i64 t.count.begun,.int .u32 (t.count.pending:Int)] 70):=((((((HRI.out.tr.set 2 _).set 3 _).set 4 _).set 5 _).set 6 _).set 7 _).drew;have HRB:Hid (Blk ((((((wr.setCell ⟨w.heap.size+1+1,2,none⟩ (.slice Av t.last.length kv)).setCell ⟨w.heap.size+1+1,3,none⟩ (.int .i64 t.count.steps)).setCell ⟨w.heap.size+1+1,4,none⟩ (.int .i64 t.count.moves)).setCell ⟨w.heap.size+1+1,5,none⟩ (.int .i64 t.count.rounds)).setCell ⟨w.heap.size+1+1,6,none⟩ (.int .i64 t.count.begun)).setCell ⟨w.heap.size+1+1,7,none⟩ (.int .u32 (t.count.pending:Int))).drew (w.heap.size+1) (aEn (.slice none 0 0) (.slice none 0 0)) 70):=((((((HRI.out.rres.other (by simp) _).other (by simp) _).other (by simp) _).other (by simp) _).other (by simp) _).other (by simp) _).drew
    have HAG:Hid (Agr (fun k=>k=w.heap.size+1∨k=w.heap.size+1+1) wr ((((((wr.setCell ⟨w.heap.size+1+1,2,none⟩ (.slice Av t.last.length kv)).setCell ⟨w.heap.size+1+1,3,none⟩ (.int .i64 t.count.steps)).setCell ⟨w.heap.size+1+1,4,none⟩ (.int .i64 t.count.moves)).setCell ⟨w.heap.size+1+1,5,none⟩ (.int .i64 t.count.rounds)).setCell ⟨w.heap.size+1+1,6,none⟩ (.int .i64 t.count.begun)).setCell ⟨w.heap.size+1+1,7,none⟩ (.int .u32 (t.count.pending:Int))).drew):=((((((Agr.setCell (E:=fun k=>k=w.heap.size+1∨k=w.heap.size+1+1) wr ⟨w.heap.size+1+1,2,none⟩ _ (.inr rfl)).trans (Agr.setCell _ ⟨w.heap.size+1+1,3,none⟩ _ (.inr rfl))).trans (Agr.setCell _ ⟨w.heap.size+1+1,4,none⟩ _ (.inr rfl))).trans (Agr.setCell _ ⟨w.heap.size+1+1,5,none⟩ _ (.inr rfl))).trans (Agr.setCell _ ⟨w.heap.size+1+1,6,none⟩ _ (.inr rfl))).trans (Agr.setCell _ ⟨w.heap.size+1+1,7,none⟩ _ (.inr rfl))).drew;generalize ((((((wr.setCell ⟨w.heap.size+1+1,2,none⟩ (.slice Av t.last.length kv)).setCell ⟨w.heap.size+1+1,3,none⟩ (.int .i64 t.count.steps)).setCell ⟨w.heap.size+1+1,4,none⟩ (.int .i64 t.count.moves)).setCell ⟨w.heap.size+1+1,5,none⟩ (.int .i64 t.count.rounds)).setCell ⟨w.heap.size+1+1,6,none⟩ (.int .i64 t.count.begun)).setCell ⟨w.heap.size+1+1,7,none⟩ (.int .u32 (t.count.pending:Int))).drew=WF at *;clear c0 c1 c2 c3 c4 cl tf2 tf3 tf4 tf5 tf6 tf7 tz2 tz3 tz4 tz5 tz6 tz7 tl hcbx;have c0:=HTR2.out.cell 0 (v := .slice A1 t.chosen.length k1) rfl;have c1:=HTR2.out.cell 1 (v := .slice A2 t.enabled.length k2) rfl;have c2:=HTR2.out.cell 2 (v := .slice Av t.last.length kv) rfl;have c3:=HTR2.out.cell 3 (v := .int .i64 t.count.steps) rfl;have c4:=HTR2.out.cell 4 (v := .int .i64 t.count.moves) rfl;have c5:=HTR2.out.cell 5 (v := .int .i64 t.count.rounds) rfl;have c6:=HTR2.out.cell 6 (v := .int .i64 t.count.begun) rfl;have c7:=HTR2.out.cell 7 (v := .int .u32 (t.count.pending:Int)) rfl;have cl:=HTR2.out.lt;have z0:=HRB.out.cell 0 (v := .slice none 0 0) rfl;have f0:=HRB.out.frozen 0;have z1:=HRB.out.cell 1 (v := .slice none 0 0) rfl;have f1:=HRB.out.frozen 1;have z2:=HRB.out.cell 2 (v := .slice none 0 0) rfl;have f2:=HRB.out.frozen 2;have z3:=HRB.out.cell 3 (v := .int .i64 0) rfl;have f3:=HRB.out.frozen 3;have z4:=HRB.out.cell 4 (v := .int .i64 0) rfl;have f4:=HRB.out.frozen 4;have z5:=HRB.out.cell 5 (v := .int .i64 0) rfl;have f5:=HRB.out.frozen 5;have z6:=HRB.out.cell 6 (v := .int .i64 0) rfl;have f6:=HRB.out.frozen 6;have z7:=HRB.out.cell 7 (v := .int .u32 0) rfl;have f7:=HRB.out.frozen 7;have zl:=HRB.out.lt;have hRR:R0=some t:=by have:=HRES.out;rw [Nat.sub_self] at this;exact this.symm
    have hVV:L.map Prod.snd=V0:=by have:=HVIS.out;rw [Nat.sub_self] at this;simpa [aZb] using this
    have HRR:=aA0 hRR;have HVV:=aA0 hVV;clear hRR hVV
    go_wp2_with fail
    have HR9:Blk ((((((((WF.setCell ⟨w.heap.size+1,0,none⟩ (.slice A1 t.chosen.length k1)).setCell ⟨w.heap.size+1,1,none⟩ (.slice A2 t.enabled.length k2)).setCell ⟨w.heap.size+1,2,none⟩ (.slice Av t.last.length kv)).setCell ⟨w.heap.size+1,3,none⟩ (.int .i64 t.count.steps)).setCell ⟨w.heap.size+1,4,none⟩ (.int .i64 t.count.moves)).setCell ⟨w.heap.size+1,5,none⟩ (.int .i64 t.count.rounds)).setCell ⟨w.heap.size+1,6,none⟩ (.int .i64 t.count.begun)).setCell ⟨w.heap.size+1,7,none⟩ (.int .u32 (t.count.pending:Int))) (w.heap.size+1) #[.slice A1 t.chosen.length k1,.slice A2 t.enabled.length k2,.slice Av t.last.length kv,.int .i64 t.count.steps,.int .i64 t.count.moves,.int .i64 t.count.rounds,.int .i64 t.count.begun,.int .u32 (t.count.pending:Int)] 70:=((((((((HRB.out.set 0 _).set 1 _).set 2 _).set 3 _).set 4 _).set 5 _).set 6 _).set 7 _);have y0:=HR9.cell 0 (v := .slice A1 t.chosen.length k1) rfl;have y1:=HR9.cell 1 (v := .slice A2 t.enabled.length k2) rfl;have y2:=HR9.cell 2 (v := .slice Av t.last.length kv) rfl;have y3:=HR9.cell 3 (v := .int .i64 t.count.steps) rfl;have y4:=HR9.cell 4 (v := .int .i64 t.count.moves) rfl;have y5:=HR9.cell 5 (v := .int .i64 t.count.rounds) rfl;have y6:=HR9.cell 6 (v := .int .i64 t.count.begun) rfl;have y7:=HR9.cell 7 (v := .int .u32 (t.count.pending:Int)) rfl;refine bodyPost_ret (v := .tuple #[.agg #[.slice A1 t.chosen.length k1,.slice A2 t.enabled.length k2,.slice Av t.last.length kv,.int .i64 t.count.steps,.int .i64 t.count.moves,.int .i64 t.count.rounds,.int .i64 t.count.begun,.int .u32 (t.count.pending:Int)],.int .i64 0]) (by simp [results,Tryz.results94,go_sem,y0,y1,y2,y3,y4,y5,y6,y7];try go_simp) rfl ?_
    obtain ⟨q1,q2,q3,q4,q5,q6,q7,q8,q9⟩:=HRI.out.finish HS.out (((((((((HAG.out).trans (Agr.setCell _ ⟨w.heap.size+1,0,none⟩ _ (.inl rfl))).trans (Agr.setCell _ ⟨w.heap.size+1,1,none⟩ _ (.inl rfl))).trans (Agr.setCell _ ⟨w.heap.size+1,2,none⟩ _ (.inl rfl))).trans (Agr.setCell _ ⟨w.heap.size+1,3,none⟩ _ (.inl rfl))).trans (Agr.setCell _ ⟨w.heap.size+1,4,none⟩ _ (.inl rfl))).trans (Agr.setCell _ ⟨w.heap.size+1,5,none⟩ _ (.inl rfl))).trans (Agr.setCell _ ⟨w.heap.size+1,6,none⟩ _ (.inl rfl))).trans (Agr.setCell _ ⟨w.heap.size+1,7,none⟩ _ (.inl rfl)));exact ⟨⟨M,L,_,q1,HVV.out,q2,by rw [HRR.out];rfl,by rw [HRR.out];exact fun V hV=>⟨A1,k1,A2,k2,Av,kv,rfl,q3 V hV,q6,q7,q4 V hV,q8,q9,q2 _ HMEM.out V hV⟩,HRI.out.sup,HRI.out.newM⟩,q5⟩
end
end Go.Proofs.YtmoebklkkjbigaaGreatDoor

