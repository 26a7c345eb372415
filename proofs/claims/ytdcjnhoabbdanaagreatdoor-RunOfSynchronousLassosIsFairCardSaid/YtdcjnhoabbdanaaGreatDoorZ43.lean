/- Merged. -/
import Derived.Test.YtdcjnhoabbdanaaGreatDoorZ42
set_option linter.unusedSimpArgs false
set_option linter.unnecessarySimpa false
set_option linter.unusedVariables false
set_option maxRecDepth 100000
set_option maxHeartbeats 4000000
open Go.Proofs.Tryz

namespace Go.Proofs.YtdcjnhoabbdanaaGreatDoor
open Go.RowKit
def aPa (p:Prg) (g:Graph) (kind:Int) (c:aA6) (l m:List Nat):Bool :=
 if aH0 p g kind c l m=0 then (match aD0 p g kind c l m with | some x=>decide (x.1.last=x.2.last) | none=>false) else false
def aNa (p:Prg) (g:Graph) (kind:Int) (c:aA6) (l m:List Nat):Bool :=
 if aH0 p g kind c l m=0 then (match aD0 p g kind c l m with | some x=>aOn c.length m x.1 x.2 | none=>false) else false
theorem aNm {p:Prg} {g:Graph} {kind:Int} {c:aA6} {l m:List Nat} (h:aH0 p g kind c l m≠0):aPa p g kind c l m=false:=if_neg h
theorem aQ8 {p:Prg} {g:Graph} {kind:Int} {c:aA6} {l m:List Nat} (h:aH0 p g kind c l m≠0):aNa p g kind c l m=false:=if_neg h
theorem aJq {p:Prg} {g:Graph} {kind:Int} {c:aA6} {l m:List Nat} {a b:Trc} (h:aH0 p g kind c l m=0) (hr:aD0 p g kind c l m=some (a,b)):aPa p g kind c l m=decide (a.last=b.last):=by
 unfold aPa;rw [if_pos h,hr]
theorem aMj {p:Prg} {g:Graph} {kind:Int} {c:aA6} {l m:List Nat} {a b:Trc} (h:aH0 p g kind c l m=0) (hr:aD0 p g kind c l m=some (a,b)):aNa p g kind c l m=aOn c.length m a b:=by
 unfold aNa;rw [if_pos h,hr]
theorem aKt {p:Prg} {g:Graph} {kind:Int} {c:aA6} {l m:List Nat} {a b:Trc} (h:aH0 p g kind c l m=0) (hl:∀ S∈l,S<4294967296) (hm:∀ S∈m,S<4294967296) (hr:aD0 p g kind c l m=some (a,b)) :
  aD1 p g c=0/\aJp kind=true/\m≠[]/\OkT p g a/\OkT p g b/\aB1 p g kind (aAe p g c) l=some a/\aB1 p g kind (aAe p g a.last) m=some b/\b.enabled.length=m.length+1/\∀ E∈b.enabled,E<4294967296:=by
 have h0:aI0 p g kind c ((l.length:Int)+m.length)=0/\m≠[]:=by
  unfold aH0 at h;split at h
  .rename_i h1;exact absurd h h1
  .rename_i h1
   split at h
   .cases h
   .rename_i h2;exact ⟨by simpa using h1,h2⟩
 have hmem:=(aDc h0.1).1;unfold aD0 at hr;cases hp:aB1 p g kind (aAe p g c) l with
 | none=>rw [hp] at hr;cases hr
 | some a' =>
  rw [hp] at hr;cases hq:aB1 p g kind (aAe p g a'.last) m with
  | none=>simp [hq] at hr
  | some b' =>
   simp [hq] at hr
   obtain ⟨rfl,rfl⟩:=hr;have okA:=aHa (OkT.start hmem) hl hp;have okB:=aHa (OkT.start okA.mem) hm hq
   exact ⟨hmem,(aDc h0.1).2.1,h0.2,okA,okB,rfl,hq,by rw [okB.len,aGb hq];simp [aAe],aO5 (OkT.start okA.mem) hm (fun E he=>by
    obtain rfl:=List.mem_singleton.1 he
    exact Nat.lt_trans (aFs okA.mem) (by decide)) hq⟩
theorem aM1 (v1:Value) (p:Prg) (v2:Value) (g:Graph) (v3:Value) (c:aA6) (kind:Int) (Ap:Option Addr) (cp:Nat) (l:List Nat) (Al:Option Addr) (cl:Nat) (m:List Nat) (w:World) (h:aEi w v1 p) (h2:aAn w v2 g) (h3:aAw w v3 c) (hL:aAu p=true) (hG:aB3 g=true) (hC:aBs c=true) (hM:aAa w Ap l.length l) (hM2:aAa w Al m.length m) (hl32:∀ y∈l,y<4294967296) (hm32:∀ y∈m,y<4294967296) (hln:l.length<=60) (hmn:m.length<=60) :
  Calls prog 27 #[v1,v2,.int .i64 kind,v3,.slice Ap l.length cp,.slice Al m.length cl] w fun e w'=>e = .returned (.tuple #[.bool (aPa p g kind c l m),.int .i64 (aH0 p g kind c l m)])/\Bel w w':=by
 have HMK:=aA0 (fun w' (k:Bel w w')=>And.intro (aAa.keep hM k) (aAa.keep hM2 k));have H32:=aA0 hl32;have H322:=aA0 hm32;clear hM hM2 hl32 hm32;have HPV:=aA0 (fun w' (k:Bel w w')=>h.keep k);have HGV:=aA0 (fun w' (k:Bel w w')=>h2.keep k);have HCV:=aA0 (fun w' (k:Bel w w')=>h3.keep k);obtain ⟨A1,k1,A2,k2,rfl,_,_,_,_,_,_⟩:=h;obtain ⟨A3,k3,A4,k4,rfl,_,_,_,_,_,_⟩:=h2;obtain ⟨A5,k5,rfl,_,_,_⟩:=h3;have HW:=Bel.refl ((w.alloc (.cells #[.string p.name,.slice A1 p.vars.length k1,.slice A2 p.rules.length k2] 25)).alloc (.cells #[.slice A3 g.ids.length k3,.slice A4 g.ports.length k4] 29));have HL:=aA0 hL;have HGL:=aA0 hG;have HCL:=aA0 hC;clear hL hG hC;obtain ⟨er,her⟩:∃ er,aH0 p g kind c l m=er:=⟨_,rfl⟩;have HER:=aA0 her
 by_cases h0:er=0
 .have HE0:Hid (aH0 p g kind c l m=0):=her.trans h0
  have d0:(er != 0)=false:=by simp [h0]
  have HEZ:=aA0 h0;clear her h0;go_enter func27,ntmps27
  go_upto_region 2 with (go_at_call 53;refine (aGe _ p _ g _ c kind Ap cp l Al cl m _ (HPV.out _ (aA1 HW)) (HGV.out _ (aA1 HW)) (HCV.out _ (aA1 HW)) HL.out HGL.out HCL.out (HMK.out _ (aA1 HW)).1 (HMK.out _ (aA1 HW)).2 H32.out H322.out hln hmn).mono ?_;rw [HER.out];rintro e w2 ⟨ta,tb,va,vb,rfl,hva,hvb,hok,hb⟩;obtain ⟨aA,ak,aB,al,aC,am,rfl,a1,a2,a3,a4,a5,a6,a7⟩:=hva;obtain ⟨bA,bk,bB,bl,bC,bm,rfl,b1,b2,b3,b4,b5,b6,b7⟩:=hvb;have HOK:=aA0 hok;have HA7:=aA0 (fun W (k:Bel w2 W)=>a7.keep k);have HB7:=aA0 (fun W (k:Bel w2 W)=>And.intro (b7.keep k) (aAa.keep b4 k));clear a1 a2 a3 a4 a5 a6 a7 b1 b2 b3 b4 b5 b6 b7 hok;replace HW:=HW.trans hb;clear hb;(try clear p0 p1 p2 g0 g1 gsz);obtain ⟨p0,p1,p2,g0,g1,gsz⟩:=aAd HW)
  have hro:=HOK.out HEZ.out;have hrk:=aKt HE0.out H32.out H322.out hro;have HLB:=aA0 (aJq HE0.out hro);have HLA:=aA0 (aDh hrk.2.2.2.1.mem HL.out);clear hro hrk;have HXa:Hid (Blk ((w2.alloc (.cells #[.slice aA ta.chosen.length ak,.slice aB ta.enabled.length al,.slice aC ta.last.length am,.int .i64 ta.count.steps,.int .i64 ta.count.moves,.int .i64 ta.count.rounds,.int .i64 ta.count.begun,.int .u32 (ta.count.pending:Int)] 38)).alloc (.cells #[.slice bA tb.chosen.length bk,.slice bB tb.enabled.length bl,.slice bC tb.last.length bm,.int .i64 tb.count.steps,.int .i64 tb.count.moves,.int .i64 tb.count.rounds,.int .i64 tb.count.begun,.int .u32 (tb.count.pending:Int)] 38)) w2.heap.size #[.slice aA ta.chosen.length ak,.slice aB ta.enabled.length al,.slice aC ta.last.length am,.int .i64 ta.count.steps,.int .i64 ta.count.moves,.int .i64 ta.count.rounds,.int .i64 ta.count.begun,.int .u32 (ta.count.pending:Int)] 38):=(Blk.new _ _ _).alloc _
  have HXb:Hid (Blk ((w2.alloc (.cells #[.slice aA ta.chosen.length ak,.slice aB ta.enabled.length al,.slice aC ta.last.length am,.int .i64 ta.count.steps,.int .i64 ta.count.moves,.int .i64 ta.count.rounds,.int .i64 ta.count.begun,.int .u32 (ta.count.pending:Int)] 38)).alloc (.cells #[.slice bA tb.chosen.length bk,.slice bB tb.enabled.length bl,.slice bC tb.last.length bm,.int .i64 tb.count.steps,.int .i64 tb.count.moves,.int .i64 tb.count.rounds,.int .i64 tb.count.begun,.int .u32 (tb.count.pending:Int)] 38)) (w2.heap.size+1) #[.slice bA tb.chosen.length bk,.slice bB tb.enabled.length bl,.slice bC tb.last.length bm,.int .i64 tb.count.steps,.int .i64 tb.count.moves,.int .i64 tb.count.rounds,.int .i64 tb.count.begun,.int .u32 (tb.count.pending:Int)] 38):=by
   have:=Blk.new (w2.alloc (.cells #[.slice aA ta.chosen.length ak,.slice aB ta.enabled.length al,.slice aC ta.last.length am,.int .i64 ta.count.steps,.int .i64 ta.count.moves,.int .i64 ta.count.rounds,.int .i64 ta.count.begun,.int .u32 (ta.count.pending:Int)] 38)) #[.slice bA tb.chosen.length bk,.slice bB tb.enabled.length bl,.slice bC tb.last.length bm,.int .i64 tb.count.steps,.int .i64 tb.count.moves,.int .i64 tb.count.rounds,.int .i64 tb.count.begun,.int .u32 (tb.count.pending:Int)] 38;rw [World.size_alloc] at this;exact this
  have hb2:Bel w2 ((w2.alloc (.cells #[.slice aA ta.chosen.length ak,.slice aB ta.enabled.length al,.slice aC ta.last.length am,.int .i64 ta.count.steps,.int .i64 ta.count.moves,.int .i64 ta.count.rounds,.int .i64 ta.count.begun,.int .u32 (ta.count.pending:Int)] 38)).alloc (.cells #[.slice bA tb.chosen.length bk,.slice bB tb.enabled.length bl,.slice bC tb.last.length bm,.int .i64 tb.count.steps,.int .i64 tb.count.moves,.int .i64 tb.count.rounds,.int .i64 tb.count.begun,.int .u32 (tb.count.pending:Int)] 38)):=((Bel.refl w2).alloc _).alloc _;replace HW:=HW.trans hb2;have HB2:=aA0 hb2;clear hb2;generalize (w2.alloc (.cells #[.slice aA ta.chosen.length ak,.slice aB ta.enabled.length al,.slice aC ta.last.length am,.int .i64 ta.count.steps,.int .i64 ta.count.moves,.int .i64 ta.count.rounds,.int .i64 ta.count.begun,.int .u32 (ta.count.pending:Int)] 38)).alloc (.cells #[.slice bA tb.chosen.length bk,.slice bB tb.enabled.length bl,.slice bC tb.last.length bm,.int .i64 tb.count.steps,.int .i64 tb.count.moves,.int .i64 tb.count.rounds,.int .i64 tb.count.begun,.int .u32 (tb.count.pending:Int)] 38)=W3 at *;generalize w2.heap.size=ba at *
  (try clear p0 p1 p2 g0 g1 gsz)
  obtain ⟨p0,p1,p2,g0,g1,gsz⟩:=aAd HW;have x2:=HXa.out.cell 2 (v := .slice aC ta.last.length am) rfl;have xz:=HXa.out.lt;have u1:=HXb.out.cell 1 (v := .slice bB tb.enabled.length bl) rfl;have u2:=HXb.out.cell 2 (v := .slice bC tb.last.length bm) rfl;have uz:=HXb.out.lt
  go_wp2_with (go_at_call 20;refine (aJx _ _ ta.last tb.last _ (HA7.out _ HB2.out) (HB7.out _ HB2.out).1 (by have:=(aBb HLA.out).1;omega) (fun r hr=>by have:=(aBb HLA.out).2 r hr;omega)).mono ?_;rintro e w5 ⟨rfl,hb⟩;replace HW:=HW.trans hb;clear hb)
  go_ret2
  exact ⟨by rw [HLB.out,HE0.out];rfl,aA1 HW⟩
 .have HE0:Hid (aH0 p g kind c l m≠0):=fun e=>h0 (her.symm.trans e)
  have d0:(er != 0)=true:=by simpa using h0
  have HLB:=aA0 (aNm HE0.out);clear her h0;go_enter func27,ntmps27
  go_upto_region 2 with (go_at_call 53;refine (aGe _ p _ g _ c kind Ap cp l Al cl m _ (HPV.out _ (aA1 HW)) (HGV.out _ (aA1 HW)) (HCV.out _ (aA1 HW)) HL.out HGL.out HCL.out (HMK.out _ (aA1 HW)).1 (HMK.out _ (aA1 HW)).2 H32.out H322.out hln hmn).mono ?_;rw [HER.out];rintro e w2 ⟨ta,tb,va,vb,rfl,hva,hvb,hok,hb⟩;obtain ⟨aA,ak,aB,al,aC,am,rfl,a1,a2,a3,a4,a5,a6,a7⟩:=hva;obtain ⟨bA,bk,bB,bl,bC,bm,rfl,b1,b2,b3,b4,b5,b6,b7⟩:=hvb;have HOK:=aA0 hok;have HA7:=aA0 (fun W (k:Bel w2 W)=>a7.keep k);have HB7:=aA0 (fun W (k:Bel w2 W)=>And.intro (b7.keep k) (aAa.keep b4 k));clear a1 a2 a3 a4 a5 a6 a7 b1 b2 b3 b4 b5 b6 b7 hok;replace HW:=HW.trans hb;clear hb;(try clear p0 p1 p2 g0 g1 gsz);obtain ⟨p0,p1,p2,g0,g1,gsz⟩:=aAd HW)
  have HXa:Hid (Blk ((w2.alloc (.cells #[.slice aA ta.chosen.length ak,.slice aB ta.enabled.length al,.slice aC ta.last.length am,.int .i64 ta.count.steps,.int .i64 ta.count.moves,.int .i64 ta.count.rounds,.int .i64 ta.count.begun,.int .u32 (ta.count.pending:Int)] 38)).alloc (.cells #[.slice bA tb.chosen.length bk,.slice bB tb.enabled.length bl,.slice bC tb.last.length bm,.int .i64 tb.count.steps,.int .i64 tb.count.moves,.int .i64 tb.count.rounds,.int .i64 tb.count.begun,.int .u32 (tb.count.pending:Int)] 38)) w2.heap.size #[.slice aA ta.chosen.length ak,.slice aB ta.enabled.length al,.slice aC ta.last.length am,.int .i64 ta.count.steps,.int .i64 ta.count.moves,.int .i64 ta.count.rounds,.int .i64 ta.count.begun,.int .u32 (ta.count.pending:Int)] 38):=(Blk.new _ _ _).alloc _
  have HXb:Hid (Blk ((w2.alloc (.cells #[.slice aA ta.chosen.length ak,.slice aB ta.enabled.length al,.slice aC ta.last.length am,.int .i64 ta.count.steps,.int .i64 ta.count.moves,.int .i64 ta.count.rounds,.int .i64 ta.count.begun,.int .u32 (ta.count.pending:Int)] 38)).alloc (.cells #[.slice bA tb.chosen.length bk,.slice bB tb.enabled.length bl,.slice bC tb.last.length bm,.int .i64 tb.count.steps,.int .i64 tb.count.moves,.int .i64 tb.count.rounds,.int .i64 tb.count.begun,.int .u32 (tb.count.pending:Int)] 38)) (w2.heap.size+1) #[.slice bA tb.chosen.length bk,.slice bB tb.enabled.length bl,.slice bC tb.last.length bm,.int .i64 tb.count.steps,.int .i64 tb.count.moves,.int .i64 tb.count.rounds,.int .i64 tb.count.begun,.int .u32 (tb.count.pending:Int)] 38):=by
   have:=Blk.new (w2.alloc (.cells #[.slice aA ta.chosen.length ak,.slice aB ta.enabled.length al,.slice aC ta.last.length am,.int .i64 ta.count.steps,.int .i64 ta.count.moves,.int .i64 ta.count.rounds,.int .i64 ta.count.begun,.int .u32 (ta.count.pending:Int)] 38)) #[.slice bA tb.chosen.length bk,.slice bB tb.enabled.length bl,.slice bC tb.last.length bm,.int .i64 tb.count.steps,.int .i64 tb.count.moves,.int .i64 tb.count.rounds,.int .i64 tb.count.begun,.int .u32 (tb.count.pending:Int)] 38;rw [World.size_alloc] at this;exact this
  have hb2:Bel w2 ((w2.alloc (.cells #[.slice aA ta.chosen.length ak,.slice aB ta.enabled.length al,.slice aC ta.last.length am,.int .i64 ta.count.steps,.int .i64 ta.count.moves,.int .i64 ta.count.rounds,.int .i64 ta.count.begun,.int .u32 (ta.count.pending:Int)] 38)).alloc (.cells #[.slice bA tb.chosen.length bk,.slice bB tb.enabled.length bl,.slice bC tb.last.length bm,.int .i64 tb.count.steps,.int .i64 tb.count.moves,.int .i64 tb.count.rounds,.int .i64 tb.count.begun,.int .u32 (tb.count.pending:Int)] 38)):=((Bel.refl w2).alloc _).alloc _;replace HW:=HW.trans hb2;have HB2:=aA0 hb2;clear hb2;generalize (w2.alloc (.cells #[.slice aA ta.chosen.length ak,.slice aB ta.enabled.length al,.slice aC ta.last.length am,.int .i64 ta.count.steps,.int .i64 ta.count.moves,.int .i64 ta.count.rounds,.int .i64 ta.count.begun,.int .u32 (ta.count.pending:Int)] 38)).alloc (.cells #[.slice bA tb.chosen.length bk,.slice bB tb.enabled.length bl,.slice bC tb.last.length bm,.int .i64 tb.count.steps,.int .i64 tb.count.moves,.int .i64 tb.count.rounds,.int .i64 tb.count.begun,.int .u32 (tb.count.pending:Int)] 38)=W3 at *;generalize w2.heap.size=ba at *
  (try clear p0 p1 p2 g0 g1 gsz)
  obtain ⟨p0,p1,p2,g0,g1,gsz⟩:=aAd HW;have x2:=HXa.out.cell 2 (v := .slice aC ta.last.length am) rfl;have xz:=HXa.out.lt;have u1:=HXb.out.cell 1 (v := .slice bB tb.enabled.length bl) rfl;have u2:=HXb.out.cell 2 (v := .slice bC tb.last.length bm) rfl;have uz:=HXb.out.lt
  go_wp2_with fail
  go_ret2
  exact ⟨by rw [HLB.out,HER.out];rfl,aA1 HW⟩
theorem aUa (v1:Value) (p:Prg) (v2:Value) (g:Graph) (v3:Value) (c:aA6) (kind:Int) (Ap:Option Addr) (cp:Nat) (l:List Nat) (Al:Option Addr) (cl:Nat) (m:List Nat) (w:World) (h:aEi w v1 p) (h2:aAn w v2 g) (h3:aAw w v3 c) (hL:aAu p=true) (hG:aB3 g=true) (hC:aBs c=true) (hM:aAa w Ap l.length l) (hM2:aAa w Al m.length m) (hl32:∀ y∈l,y<4294967296) (hm32:∀ y∈m,y<4294967296) (hln:l.length<=60) (hmn:m.length<=60) :
  Calls prog 29 #[v1,v2,.int .i64 kind,v3,.slice Ap l.length cp,.slice Al m.length cl] w fun e w'=>e = .returned (.tuple #[.bool (aNa p g kind c l m),.int .i64 (aH0 p g kind c l m)])/\Bel w w':=by
 have HMK:=aA0 (fun w' (k:Bel w w')=>And.intro (aAa.keep hM k) (aAa.keep hM2 k));have H32:=aA0 hl32;have H322:=aA0 hm32;clear hM hM2 hl32 hm32;have HPV:=aA0 (fun w' (k:Bel w w')=>h.keep k);have HGV:=aA0 (fun w' (k:Bel w w')=>h2.keep k);have HCV:=aA0 (fun w' (k:Bel w w')=>h3.keep k);obtain ⟨A1,k1,A2,k2,rfl,_,_,_,_,_,_⟩:=h;obtain ⟨A3,k3,A4,k4,rfl,_,_,_,_,_,_⟩:=h2;obtain ⟨A5,k5,rfl,_,_,_⟩:=h3;have HW:=Bel.refl ((w.alloc (.cells #[.string p.name,.slice A1 p.vars.length k1,.slice A2 p.rules.length k2] 25)).alloc (.cells #[.slice A3 g.ids.length k3,.slice A4 g.ports.length k4] 29));have HL:=aA0 hL;have HGL:=aA0 hG;have HCL:=aA0 hC;clear hL hG hC;obtain ⟨er,her⟩:∃ er,aH0 p g kind c l m=er:=⟨_,rfl⟩;have HER:=aA0 her
 by_cases h0:er=0
 .have HE0:Hid (aH0 p g kind c l m=0):=her.trans h0
  have d0:(er != 0)=false:=by simp [h0]
  have HEZ:=aA0 h0;clear her h0;go_enter func29,ntmps29
  go_upto_region 2 with (go_at_call 53;refine (aGe _ p _ g _ c kind Ap cp l Al cl m _ (HPV.out _ (aA1 HW)) (HGV.out _ (aA1 HW)) (HCV.out _ (aA1 HW)) HL.out HGL.out HCL.out (HMK.out _ (aA1 HW)).1 (HMK.out _ (aA1 HW)).2 H32.out H322.out hln hmn).mono ?_;rw [HER.out];rintro e w2 ⟨ta,tb,va,vb,rfl,hva,hvb,hok,hb⟩;obtain ⟨aA,ak,aB,al,aC,am,rfl,a1,a2,a3,a4,a5,a6,a7⟩:=hva;obtain ⟨bA,bk,bB,bl,bC,bm,rfl,b1,b2,b3,b4,b5,b6,b7⟩:=hvb;have HOK:=aA0 hok;have HA7:=aA0 (fun W (k:Bel w2 W)=>a7.keep k);have HB7:=aA0 (fun W (k:Bel w2 W)=>And.intro (b7.keep k) (aAa.keep b4 k));clear a1 a2 a3 a4 a5 a6 a7 b1 b2 b3 b4 b5 b6 b7 hok;replace HW:=HW.trans hb;clear hb;(try clear p0 p1 p2 g0 g1 gsz);obtain ⟨p0,p1,p2,g0,g1,gsz⟩:=aAd HW)
  have hro:=HOK.out HEZ.out;have hrk:=aKt HE0.out H32.out H322.out hro;have HFB:=aA0 (aMj HE0.out hro);have HLA:=aA0 (aDh hrk.2.2.2.1.mem HL.out);have HBL:=aA0 hrk.2.2.2.2.2.2.2.1;have HB32:=aA0 hrk.2.2.2.2.2.2.2.2;have hc24:c.length<=24:=by rw [aDg hrk.1];exact (aAp (aB8 hrk.1).1).2.1.le
  clear hro hrk;have HXa:Hid (Blk ((w2.alloc (.cells #[.slice aA ta.chosen.length ak,.slice aB ta.enabled.length al,.slice aC ta.last.length am,.int .i64 ta.count.steps,.int .i64 ta.count.moves,.int .i64 ta.count.rounds,.int .i64 ta.count.begun,.int .u32 (ta.count.pending:Int)] 38)).alloc (.cells #[.slice bA tb.chosen.length bk,.slice bB tb.enabled.length bl,.slice bC tb.last.length bm,.int .i64 tb.count.steps,.int .i64 tb.count.moves,.int .i64 tb.count.rounds,.int .i64 tb.count.begun,.int .u32 (tb.count.pending:Int)] 38)) w2.heap.size #[.slice aA ta.chosen.length ak,.slice aB ta.enabled.length al,.slice aC ta.last.length am,.int .i64 ta.count.steps,.int .i64 ta.count.moves,.int .i64 ta.count.rounds,.int .i64 ta.count.begun,.int .u32 (ta.count.pending:Int)] 38):=(Blk.new _ _ _).alloc _
  have HXb:Hid (Blk ((w2.alloc (.cells #[.slice aA ta.chosen.length ak,.slice aB ta.enabled.length al,.slice aC ta.last.length am,.int .i64 ta.count.steps,.int .i64 ta.count.moves,.int .i64 ta.count.rounds,.int .i64 ta.count.begun,.int .u32 (ta.count.pending:Int)] 38)).alloc (.cells #[.slice bA tb.chosen.length bk,.slice bB tb.enabled.length bl,.slice bC tb.last.length bm,.int .i64 tb.count.steps,.int .i64 tb.count.moves,.int .i64 tb.count.rounds,.int .i64 tb.count.begun,.int .u32 (tb.count.pending:Int)] 38)) (w2.heap.size+1) #[.slice bA tb.chosen.length bk,.slice bB tb.enabled.length bl,.slice bC tb.last.length bm,.int .i64 tb.count.steps,.int .i64 tb.count.moves,.int .i64 tb.count.rounds,.int .i64 tb.count.begun,.int .u32 (tb.count.pending:Int)] 38):=by
   have:=Blk.new (w2.alloc (.cells #[.slice aA ta.chosen.length ak,.slice aB ta.enabled.length al,.slice aC ta.last.length am,.int .i64 ta.count.steps,.int .i64 ta.count.moves,.int .i64 ta.count.rounds,.int .i64 ta.count.begun,.int .u32 (ta.count.pending:Int)] 38)) #[.slice bA tb.chosen.length bk,.slice bB tb.enabled.length bl,.slice bC tb.last.length bm,.int .i64 tb.count.steps,.int .i64 tb.count.moves,.int .i64 tb.count.rounds,.int .i64 tb.count.begun,.int .u32 (tb.count.pending:Int)] 38;rw [World.size_alloc] at this;exact this
  have hb2:Bel w2 ((w2.alloc (.cells #[.slice aA ta.chosen.length ak,.slice aB ta.enabled.length al,.slice aC ta.last.length am,.int .i64 ta.count.steps,.int .i64 ta.count.moves,.int .i64 ta.count.rounds,.int .i64 ta.count.begun,.int .u32 (ta.count.pending:Int)] 38)).alloc (.cells #[.slice bA tb.chosen.length bk,.slice bB tb.enabled.length bl,.slice bC tb.last.length bm,.int .i64 tb.count.steps,.int .i64 tb.count.moves,.int .i64 tb.count.rounds,.int .i64 tb.count.begun,.int .u32 (tb.count.pending:Int)] 38)):=((Bel.refl w2).alloc _).alloc _;replace HW:=HW.trans hb2;have HB2:=aA0 hb2;clear hb2;generalize (w2.alloc (.cells #[.slice aA ta.chosen.length ak,.slice aB ta.enabled.length al,.slice aC ta.last.length am,.int .i64 ta.count.steps,.int .i64 ta.count.moves,.int .i64 ta.count.rounds,.int .i64 ta.count.begun,.int .u32 (ta.count.pending:Int)] 38)).alloc (.cells #[.slice bA tb.chosen.length bk,.slice bB tb.enabled.length bl,.slice bC tb.last.length bm,.int .i64 tb.count.steps,.int .i64 tb.count.moves,.int .i64 tb.count.rounds,.int .i64 tb.count.begun,.int .u32 (tb.count.pending:Int)] 38)=W3 at *;generalize w2.heap.size=ba at *
  (try clear p0 p1 p2 g0 g1 gsz)
  obtain ⟨p0,p1,p2,g0,g1,gsz⟩:=aAd HW;have x2:=HXa.out.cell 2 (v := .slice aC ta.last.length am) rfl;have xz:=HXa.out.lt;have u1:=HXb.out.cell 1 (v := .slice bB tb.enabled.length bl) rfl;have u2:=HXb.out.cell 2 (v := .slice bC tb.last.length bm) rfl;have uz:=HXb.out.lt;cases hs:decide (ta.last=tb.last) with
  | false =>
   have HS:=aA0 hs;clear hs
   go_wp2_with (go_at_call 20;refine (aJx _ _ ta.last tb.last _ (HA7.out _ HB2.out) (HB7.out _ HB2.out).1 (by have:=(aBb HLA.out).1;omega) (fun r hr=>by have:=(aBb HLA.out).2 r hr;omega)).mono ?_;rintro e w5 ⟨rfl,hb⟩;rw [HS.out];replace HW:=HW.trans hb;clear hb)
   go_ret2
   exact ⟨by rw [HFB.out,HE0.out];unfold aOn;rw [HS.out,HEZ.out];rfl,aA1 HW⟩
  | true =>
   have HS:=aA0 hs;clear hs;have HFL:Hid (aOn c.length m ta tb=aGp c.length (tb.enabled.zip m)):=by show aOn c.length m ta tb=_;unfold aOn;rw [HS.out];rfl
   go_wp2_with (go_at_call 20;refine (aJx _ _ ta.last tb.last _ (HA7.out _ HB2.out) (HB7.out _ HB2.out).1 (by have:=(aBb HLA.out).1;omega) (fun r hr=>by have:=(aBb HLA.out).2 r hr;omega)).mono ?_;rintro e w5 ⟨rfl,hb⟩;rw [HS.out];have HB5:=hb;clear hb)
   have HWB:=aA0 (aA1 HW)
   (try clear p0 p1 p2 g0 g1 gsz)
   clear x2 xz u1 u2 uz
   go_loopg [17,18,19] c.length (fun q z _s _x wr=>∃ v:Nat,v<=c.length/\q=c.length-v/\z = .int .i64 (v:Int)/\Hid (∀ u,u<v->((tb.enabled.zip m).any fun x=>aCi x.1 x.2 u)=true)/\Bel W3 wr)
   case atStart=>exact ⟨0,by omega,rfl,rfl,fun u hu=>absurd hu (by omega),HB5⟩
   case round =>
    clear HW HB5;obtain ⟨v,hv,rfl,rfl,HU,HB⟩:=hrel;have u1:=(HXb.out.keep HB).cell 1 (v := .slice bB tb.enabled.length bl) rfl;have uz:=(HXb.out.keep HB).lt
    by_cases hlt:v<c.length
    .have hd0:decide (v<c.length)=true:=by simpa using hlt
     have hvI:(v:Int)<(c.length:Int):=by omega
     go_wp2_with fail
     go_loopg [18,19] m.length (fun q s z wi=>∃ i:Nat,i<=m.length/\q=m.length-i/\s = .bool (((tb.enabled.zip m).take i).any fun x=>aCi x.1 x.2 v)/\z = .int .i64 (i:Int)/\Bel W3 wi)
     case atStart=>exact ⟨0,by omega,rfl,rfl,rfl,HB⟩
     case round =>
      clear HB u1 uz;obtain ⟨i,hi,rfl,rfl,rfl,HB⟩:=hrel;have u1:=(HXb.out.keep HB).cell 1 (v := .slice bB tb.enabled.length bl) rfl;have uz:=(HXb.out.keep HB).lt
      by_cases hli:i<m.length
      .have hd1:decide (i<m.length)=true:=by simpa using hli
       have hiI:(i:Int)<(m.length:Int):=by omega
       have hiE:(i:Int)<(tb.enabled.length:Int):=by have:=HBL.out;omega
       have hze:i<(tb.enabled.zip m).length:=by rw [List.length_zip];have:=HBL.out;omega
       have hiE':i<tb.enabled.length:=by have:=HBL.out;omega
       have HTK:Hid (((tb.enabled.zip m).take (i+1)).any (fun x=>aCi x.1 x.2 v)=(((tb.enabled.zip m).take i).any (fun x=>aCi x.1 x.2 v)||aCi tb.enabled[i] m[i] v)):=by
        show ((tb.enabled.zip m).take (i+1)).any _=_
        rw [List.take_succ_eq_append_getElem hze,List.any_append,List.getElem_zip];simp
       cases hB:((tb.enabled.zip m).take i).any fun x=>aCi x.1 x.2 v with
       | true =>
        rw [hB] at HTK
        go_wp2_with fail
        go_roundg (m.length-(i+1))
        case rel=>exact ⟨i+1,by omega,rfl,by rw [HTK.out];rfl,by go_num,HB⟩
        case measure=>omega
       | false =>
        rw [hB] at HTK;obtain ⟨bE,oE,rfl,hbE,cE⟩:=aAa.at_ (HB7.out _ (HB2.out.trans HB)).2 i hiE';obtain ⟨bS,oS,rfl,hbS,cS0⟩:=aAa.at_ (HMK.out _ (Bel.refl w)).2 i hli;have hwb:=HWB.out.trans HB;have cS:=(hwb.cell hbS).trans cS0;have hbS2:=Nat.lt_of_lt_of_le hbS hwb.size;have hE32:=aA0 (HB32.out _ (List.getElem_mem hiE'));have hS32:=aA0 (H322.out _ (List.getElem_mem hli));have hHE:=aA0 (aUu (S:=tb.enabled[i]) (show v<32 by omega))
        have hHS:=aA0 (aUu (S:=m[i]) (show v<32 by omega))
        clear cS0 hbS;generalize tb.enabled[i]=E at *;generalize m[i]=S at *;cases hbe:E.testBit v with
        | false =>
         rw [hbe] at hHE;have hsv:aCi E S v=true:=by unfold aCi;rw [hbe];rfl
         rw [hsv] at HTK;clear hbe hsv
         go_wp2_with (go_at_call 55;refine (aFu E _ _ hE32.out).mono ?_;rintro e w6 ⟨rfl,rfl⟩;rw [hHE.out])
         go_roundg (m.length-(i+1))
         case rel=>exact ⟨i+1,by omega,rfl,by rw [HTK.out];rfl,by go_num,HB⟩
         case measure=>omega
        | true =>
         rw [hbe] at hHE;have hsv:aCi E S v=S.testBit v:=by unfold aCi;rw [hbe];rfl
         rw [hsv] at HTK;clear hbe hsv;obtain ⟨sb,hsb⟩:∃ sb,S.testBit v=sb:=⟨_,rfl⟩;rw [hsb] at hHS HTK;clear hsb;cases sb with
         | true =>
          go_wp2_with (first | (go_at_call 55;(with_reducible refine (aFu E _ _ hE32.out).mono ?_);rintro e w6 ⟨rfl,rfl⟩;rw [hHE.out]) | (go_at_call 55;(with_reducible refine (aFu S _ _ hS32.out).mono ?_);rintro e w6 ⟨rfl,rfl⟩;rw [hHS.out]))
          go_roundg (m.length-(i+1))
          case rel=>exact ⟨i+1,by omega,rfl,by rw [HTK.out];rfl,by go_num,HB⟩
          case measure=>omega
         | false =>
          go_wp2_with (first | (go_at_call 55;(with_reducible refine (aFu E _ _ hE32.out).mono ?_);rintro e w6 ⟨rfl,rfl⟩;rw [hHE.out]) | (go_at_call 55;(with_reducible refine (aFu S _ _ hS32.out).mono ?_);rintro e w6 ⟨rfl,rfl⟩;rw [hHS.out]))
          go_roundg (m.length-(i+1))
          case rel=>exact ⟨i+1,by omega,rfl,by rw [HTK.out];rfl,by go_num,HB⟩
          case measure=>omega
      .have hd1:decide (i<m.length)=false:=by simpa using hli
       obtain rfl:i=m.length:=by omega
       have hta:(tb.enabled.zip m).take m.length=tb.enabled.zip m:=List.take_of_length_le (by rw [List.length_zip];omega)
       rw [hta];clear hta;cases hB:(tb.enabled.zip m).any fun x=>aCi x.1 x.2 v with
       | true =>
        have HBV:=aA0 hB;clear hB
        go_wp2_with fail
        go_roundg (c.length-(v+1))
        case rel=>exact ⟨v+1,by omega,rfl,by go_num,fun u hu=>by
         rcases Nat.lt_or_ge u v with h | h
         .exact HU.out u h
         .obtain rfl:u=v:=by omega
          exact HBV.out,HB⟩
        case measure=>omega
       | false =>
        have hall:aGp c.length (tb.enabled.zip m)=false:=by
         unfold aGp;rw [List.all_eq_false];exact ⟨v,List.mem_range.2 hlt,by rw [hB];decide⟩
        have HAF:=aA0 hall;clear hall hB
        go_wp2_with fail
        go_ret2
        exact ⟨by rw [HFB.out,HE0.out,HFL.out,HAF.out];rfl,HWB.out.trans HB⟩
    .have hd0:decide (v<c.length)=false:=by simpa using hlt
     obtain rfl:v=c.length:=by omega
     have hall:aGp c.length (tb.enabled.zip m)=true:=by
      unfold aGp;rw [List.all_eq_true];exact fun u hu=>HU.out u (List.mem_range.1 hu)
     have HAF:=aA0 hall;clear hall
     go_wp2_with fail
     go_ret2
     exact ⟨by rw [HFB.out,HE0.out,HFL.out,HAF.out];rfl,HWB.out.trans HB⟩
 .have HE0:Hid (aH0 p g kind c l m≠0):=fun e=>h0 (her.symm.trans e)
  have d0:(er != 0)=true:=by simpa using h0
  have HLB:=aA0 (aQ8 HE0.out);clear her h0;go_enter func29,ntmps29
  go_upto_region 2 with (go_at_call 53;refine (aGe _ p _ g _ c kind Ap cp l Al cl m _ (HPV.out _ (aA1 HW)) (HGV.out _ (aA1 HW)) (HCV.out _ (aA1 HW)) HL.out HGL.out HCL.out (HMK.out _ (aA1 HW)).1 (HMK.out _ (aA1 HW)).2 H32.out H322.out hln hmn).mono ?_;rw [HER.out];rintro e w2 ⟨ta,tb,va,vb,rfl,hva,hvb,hok,hb⟩;obtain ⟨aA,ak,aB,al,aC,am,rfl,a1,a2,a3,a4,a5,a6,a7⟩:=hva;obtain ⟨bA,bk,bB,bl,bC,bm,rfl,b1,b2,b3,b4,b5,b6,b7⟩:=hvb;have HOK:=aA0 hok;have HA7:=aA0 (fun W (k:Bel w2 W)=>a7.keep k);have HB7:=aA0 (fun W (k:Bel w2 W)=>And.intro (b7.keep k) (aAa.keep b4 k));clear a1 a2 a3 a4 a5 a6 a7 b1 b2 b3 b4 b5 b6 b7 hok;replace HW:=HW.trans hb;clear hb;(try clear p0 p1 p2 g0 g1 gsz);obtain ⟨p0,p1,p2,g0,g1,gsz⟩:=aAd HW)
  have HXa:Hid (Blk ((w2.alloc (.cells #[.slice aA ta.chosen.length ak,.slice aB ta.enabled.length al,.slice aC ta.last.length am,.int .i64 ta.count.steps,.int .i64 ta.count.moves,.int .i64 ta.count.rounds,.int .i64 ta.count.begun,.int .u32 (ta.count.pending:Int)] 38)).alloc (.cells #[.slice bA tb.chosen.length bk,.slice bB tb.enabled.length bl,.slice bC tb.last.length bm,.int .i64 tb.count.steps,.int .i64 tb.count.moves,.int .i64 tb.count.rounds,.int .i64 tb.count.begun,.int .u32 (tb.count.pending:Int)] 38)) w2.heap.size #[.slice aA ta.chosen.length ak,.slice aB ta.enabled.length al,.slice aC ta.last.length am,.int .i64 ta.count.steps,.int .i64 ta.count.moves,.int .i64 ta.count.rounds,.int .i64 ta.count.begun,.int .u32 (ta.count.pending:Int)] 38):=(Blk.new _ _ _).alloc _
  have HXb:Hid (Blk ((w2.alloc (.cells #[.slice aA ta.chosen.length ak,.slice aB ta.enabled.length al,.slice aC ta.last.length am,.int .i64 ta.count.steps,.int .i64 ta.count.moves,.int .i64 ta.count.rounds,.int .i64 ta.count.begun,.int .u32 (ta.count.pending:Int)] 38)).alloc (.cells #[.slice bA tb.chosen.length bk,.slice bB tb.enabled.length bl,.slice bC tb.last.length bm,.int .i64 tb.count.steps,.int .i64 tb.count.moves,.int .i64 tb.count.rounds,.int .i64 tb.count.begun,.int .u32 (tb.count.pending:Int)] 38)) (w2.heap.size+1) #[.slice bA tb.chosen.length bk,.slice bB tb.enabled.length bl,.slice bC tb.last.length bm,.int .i64 tb.count.steps,.int .i64 tb.count.moves,.int .i64 tb.count.rounds,.int .i64 tb.count.begun,.int .u32 (tb.count.pending:Int)] 38):=by
   have:=Blk.new (w2.alloc (.cells #[.slice aA ta.chosen.length ak,.slice aB ta.enabled.length al,.slice aC ta.last.length am,.int .i64 ta.count.steps,.int .i64 ta.count.moves,.int .i64 ta.count.rounds,.int .i64 ta.count.begun,.int .u32 (ta.count.pending:Int)] 38)) #[.slice bA tb.chosen.length bk,.slice bB tb.enabled.length bl,.slice bC tb.last.length bm,.int .i64 tb.count.steps,.int .i64 tb.count.moves,.int .i64 tb.count.rounds,.int .i64 tb.count.begun,.int .u32 (tb.count.pending:Int)] 38;rw [World.size_alloc] at this;exact this
  have hb2:Bel w2 ((w2.alloc (.cells #[.slice aA ta.chosen.length ak,.slice aB ta.enabled.length al,.slice aC ta.last.length am,.int .i64 ta.count.steps,.int .i64 ta.count.moves,.int .i64 ta.count.rounds,.int .i64 ta.count.begun,.int .u32 (ta.count.pending:Int)] 38)).alloc (.cells #[.slice bA tb.chosen.length bk,.slice bB tb.enabled.length bl,.slice bC tb.last.length bm,.int .i64 tb.count.steps,.int .i64 tb.count.moves,.int .i64 tb.count.rounds,.int .i64 tb.count.begun,.int .u32 (tb.count.pending:Int)] 38)):=((Bel.refl w2).alloc _).alloc _;replace HW:=HW.trans hb2;have HB2:=aA0 hb2;clear hb2;generalize (w2.alloc (.cells #[.slice aA ta.chosen.length ak,.slice aB ta.enabled.length al,.slice aC ta.last.length am,.int .i64 ta.count.steps,.int .i64 ta.count.moves,.int .i64 ta.count.rounds,.int .i64 ta.count.begun,.int .u32 (ta.count.pending:Int)] 38)).alloc (.cells #[.slice bA tb.chosen.length bk,.slice bB tb.enabled.length bl,.slice bC tb.last.length bm,.int .i64 tb.count.steps,.int .i64 tb.count.moves,.int .i64 tb.count.rounds,.int .i64 tb.count.begun,.int .u32 (tb.count.pending:Int)] 38)=W3 at *;generalize w2.heap.size=ba at *
  (try clear p0 p1 p2 g0 g1 gsz)
  obtain ⟨p0,p1,p2,g0,g1,gsz⟩:=aAd HW;have x2:=HXa.out.cell 2 (v := .slice aC ta.last.length am) rfl;have xz:=HXa.out.lt;have u1:=HXb.out.cell 1 (v := .slice bB tb.enabled.length bl) rfl;have u2:=HXb.out.cell 2 (v := .slice bC tb.last.length bm) rfl;have uz:=HXb.out.lt
  go_wp2_with fail
  go_ret2
  exact ⟨by rw [HLB.out,HER.out];rfl,aA1 HW⟩
end Go.Proofs.YtdcjnhoabbdanaaGreatDoor

