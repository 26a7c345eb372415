/- Merged. -/
import Derived.Test.YtdcjnhoabbdanaaGreatDoorZ43
import Derived.Test.YtdcjnhoabbdanaaGreatDoorZ40
set_option linter.unusedSimpArgs false
set_option linter.unnecessarySimpa false
set_option linter.unusedVariables false
set_option maxRecDepth 100000
set_option maxHeartbeats 8000000
open Go.Proofs.Tryz

namespace Go.Proofs.YtdcjnhoabbdanaaGreatDoor
open Go.RowKit
theorem aY3 {w W:World} {A:Option Addr} {n:Nat} {xs:List Nat} (h:aAa w A n xs) (hz:w.heap.size<=W.heap.size) (hk:∀ k,k<w.heap.size->W.heap[k]?=w.heap[k]?):aAa W A n xs :=
 ⟨h.1,fun i x hx=>by
  obtain ⟨b,o,e,hb,hc⟩:=h.2 i x hx;exact ⟨b,o,e,Nat.lt_of_lt_of_le hb hz,(World.cell?_of_block (a:=⟨b,o+i*1,none⟩) (hk b hb)).trans hc⟩⟩
theorem aAh {w w':World} {B:Nat} {t:TypeId} {v:Value} (h:Boxed w B t v) (k:Bel w w'):Boxed w' B t v:=(k.block B h.lt).trans h
variable {N0:Nat} {ba bp bs bn bv bl:Nat} {Ap:Option Addr} {cp:Nat} {Al:Option Addr} {cl:Nat}
theorem bBr {p:Prg} {g:Graph} {kind:Int} {c:aA6} {l m:List Nat} {t a b:Trc} {M':Nat->Prop} {L:List (Value × Trc)} {wq w6:World} (hP:LassoP p g kind c l m t a b) (hm:∀ S∈m,S<4294967296) (h:aB1 p g kind (aAe p g c) (l++m)=some t)
  (q2:L.map Prod.snd=aM9 p g kind (fun i _=>(l++m).getD i 0) (fun _ _=>true) (l++m).length 0 (aAe p g c)) (q3:∀ x∈L,Rb (fun k=>M' k∨k<wq.heap.size) (fun W=>aAw W x.1 x.2.last) w6) :
  Rb (fun k=>M' k∨k<wq.heap.size) (fun W=>aAw W (aF5 L l.length) a.last) w6/\aC9 (fun t=>aAk p g t.last) L l.length m=aT6 (b.enabled.zip m) 0:=by
 obtain ⟨v1,v2⟩:=bAu hP hm h;rw [<- q2] at v1 v2;constructor
 .rw [List.getElem?_map] at v1
  cases hx:L[l.length]? with
  | none=>rw [hx] at v1;cases v1
  | some x =>
   rw [hx] at v1;obtain rfl:x.2=a:=by simpa using v1
   have hs:aF5 L l.length=x.1:=by unfold aF5;rw [hx]
   rw [hs];exact q3 x (List.mem_of_getElem? hx)
 .unfold aC9
  rw [<- v2,<- List.map_drop,List.map_map];rfl
theorem RepI.bel {en:Trc->Nat} {np:Nat} {l:List Nat} {M:Nat->Prop} {s:List (Value × Trc)} {w W:World} (h:RepI N0 en ba bp bs bn bv bl Ap np cp Al cl l M s w) (k:Bel w W) (hN:N0<=w.heap.size):RepI N0 en ba bp bs bn bv bl Ap np cp Al cl l M s W :=
 h.keep k.size fun q hq=>k.block q (hq.elim (h.dom q) fun e=>by omega)
def bAw (p:Prg) (g:Graph) (kind:Int) (c:aA6) (l m:List Nat) (bs bv:Nat) (r:Option Trc) (w':World):Prop:=∃ (sv:Value) (sn:Nat),Boxed w' bs 30 sv/\Boxed w' bv 34 (.int .u32 (sn:Int))/\sn<4294967296/\∀ t,r=some t->∀ a b,LassoP p g kind c l m t a b->aAw w' sv a.last/\sn=aT6 (b.enabled.zip m) 0
theorem aQz {p:Prg} {g:Graph} {kind:Int} {c:aA6} {l m lm:List Nat} (hlm:lm=l++m) {r:Option Trc} {M0:Nat->Prop} {wq w6:World} {e:Ending} (hret:RetRun M0 (fun M s w=>RepI N0 (fun t=>aAk p g t.last) ba bp bs bn bv bl Ap l.length cp Al cl m M s w) [] (aM9 p g kind (fun i _=>lm.getD i 0) (fun _ _=>true) lm.length 0 (aAe p g c)) (aKx p g kind (fun i _=>lm.getD i 0) (fun _ _=>true) lm.length 0 (aAe p g c)) wq e w6)
  (hr:aKx p g kind (fun i _=>lm.getD i 0) (fun _ _=>true) lm.length 0 (aAe p g c)=r) (hpl:aB1 p g kind (aAe p g c) lm=r) (hm:∀ S∈m,S<4294967296) :
  ∃ oA ok oB ol oC om,e = .returned (.tuple #[.agg #[.slice oA (aD2 r).1.chosen.length ok,.slice oB (aD2 r).1.enabled.length ol,.slice oC (aD2 r).1.last.length om,.int .i64 (aD2 r).1.count.steps,.int .i64 (aD2 r).1.count.moves,.int .i64 (aD2 r).1.count.rounds,.int .i64 (aD2 r).1.count.begun,.int .u32 ((aD2 r).1.count.pending:Int)],.int .i64 (aD2 r).2]) /\
   ∀ wF,Agr (fun k=>k<wq.heap.size/\k≠bs/\k≠bv/\k≠bp/\k≠bl) w6 wF->bAw p g kind c l m bs bv r wF/\Boxed wF bp 31 (.slice Ap l.length cp)/\Boxed wF bl 31 (.slice Al m.length cl)/\aAw wF (.slice oC (aD2 r).1.last.length om) (aD2 r).1.last:=by
 subst hlm;obtain ⟨⟨M',L,vt,q1,q2,q3,q4,q5,q6,q7⟩,q8⟩:=hret;rw [hr] at q4 q5;rw [List.nil_append] at q1;obtain ⟨oA,ok,oB,ol,oC,om,rfl,_,_,_,_,_,_,_⟩:=(show aBn w6 vt (aD2 r).1 from q5.here)
 refine ⟨oA,ok,oB,ol,oC,om,q4,fun wF hag=>?_⟩
 have hag2:Agr (fun k=>M' k∨k<wq.heap.size) w6 wF:=hag.mono fun k hk => .inr hk.1;refine ⟨⟨aF5 L l.length,aC9 (fun t=>aAk p g t.last) L l.length m,hag.boxed q1.xs (fun h=>h.2.1 rfl),hag.boxed q1.xv (fun h=>h.2.2.1 rfl),aVa _ _ _ hm,fun t ht a b hP=>?_⟩,hag.boxed q1.xp (fun h=>h.2.2.2.1 rfl),hag.boxed q1.xl (fun h=>h.2.2.2.2 rfl),?_⟩
 .have h2:=bBr hP hm (hpl.trans ht) q2 q3
  exact ⟨h2.1 wF hag2,h2.2⟩
 .obtain ⟨_,_,_,_,_,_,e,_,_,_,_,_,_,h7⟩:=(show aBn wF _ (aD2 r).1 from q5 wF hag2)
  obtain ⟨_,_,rfl,rfl⟩:(oA=_/\ok=_)/\(oB=_/\ol=_)/\oC=_/\om=_:=by simpa using e
  exact h7
def bC6 (la:Bool) (er:Int) (ok:Nat->Prop) (w:World) (e:Ending) (w':World):Prop:=∃ sv:Nat,e = .returned (.tuple #[.bool la,.int .u32 (sv:Int),.int .i64 er])/\(er=0->ok sv)/\sv<4294967296/\Bel w w'
theorem aIv (v1:Value) (p:Prg) (v2:Value) (g:Graph) (v3:Value) (c:aA6) (kind:Int) (Ap:Option Addr) (cp:Nat) (l:List Nat) (Al:Option Addr) (cl:Nat) (m:List Nat) (w:World) (h:aEi w v1 p) (h2:aAn w v2 g) (h3:aAw w v3 c) (hL:aAu p=true) (hG:aB3 g=true) (hC:aBs c=true) (hM:aAa w Ap l.length l) (hM2:aAa w Al m.length m) (hT:aCt w) (hl32:∀ y∈l,y<4294967296) (hm32:∀ y∈m,y<4294967296) (hln:l.length<=60) (hmn:m.length<=60) :
  Calls prog 52 #[v1,v2,.int .i64 kind,v3,.slice Ap l.length cp,.slice Al m.length cl] w (bC6 (aPa p g kind c l m) (aH0 p g kind c l m) (fun sv=>∀ a b,aD0 p g kind c l m=some (a,b)->sv=aT6 (b.enabled.zip m) 0) w):=by
 have HMK:=aA0 (fun w' (k:Bel w w')=>And.intro (aAa.keep hM k) (And.intro (aAa.keep hM2 k) (hT.keep k)));have HLOW:=aA0 (fun W hz hk=>aY3 (W:=W) hM2 hz hk);have H32:=aA0 hl32;have H322:=aA0 hm32;clear hM hM2 hl32 hm32 hT;have HPV:=aA0 (fun w' (k:Bel w w')=>h.keep k);have HGV:=aA0 (fun w' (k:Bel w w')=>h2.keep k);have HCV:=aA0 (fun w' (k:Bel w w')=>h3.keep k);obtain ⟨A1,k1,A2,k2,rfl,_,_,_,_,_,_⟩:=h;obtain ⟨A3,k3,A4,k4,rfl,_,_,_,_,_,_⟩:=h2;obtain ⟨A5,k5,rfl,_,_,_⟩:=h3;have HW:=Bel.refl ((w.alloc (.cells #[.string p.name,.slice A1 p.vars.length k1,.slice A2 p.rules.length k2] 25)).alloc (.cells #[.slice A3 g.ids.length k3,.slice A4 g.ports.length k4] 29));have HL:=aA0 hL;have HGL:=aA0 hG;have HCL:=aA0 hC;clear hL hG hC
 have HP4:Hid (Boxed ((((((w.alloc (.cells #[.string p.name,.slice A1 p.vars.length k1,.slice A2 p.rules.length k2] 25)).alloc (.cells #[.slice A3 g.ids.length k3,.slice A4 g.ports.length k4] 29)).alloc (.cells #[.slice Ap l.length cp] 31)).alloc (.cells #[.slice Al m.length cl] 31)).alloc (.cells #[.int .u32 0] 34)).alloc (.cells #[.int .i64 ((l.length:Int)+(m.length:Int))] 3)) (w.heap.size+1+1) 31 (.slice Ap l.length cp)):=by
  have:=(((Boxed.new ((w.alloc (.cells #[.string p.name,.slice A1 p.vars.length k1,.slice A2 p.rules.length k2] 25)).alloc (.cells #[.slice A3 g.ids.length k3,.slice A4 g.ports.length k4] 29)) 31 (.slice Ap l.length cp)).alloc (.cells #[.slice Al m.length cl] 31)).alloc (.cells #[.int .u32 0] 34)).alloc (.cells #[.int .i64 ((l.length:Int)+(m.length:Int))] 3);rw [World.size_alloc,World.size_alloc] at this;exact this
 have HL4:Hid (Boxed ((((((w.alloc (.cells #[.string p.name,.slice A1 p.vars.length k1,.slice A2 p.rules.length k2] 25)).alloc (.cells #[.slice A3 g.ids.length k3,.slice A4 g.ports.length k4] 29)).alloc (.cells #[.slice Ap l.length cp] 31)).alloc (.cells #[.slice Al m.length cl] 31)).alloc (.cells #[.int .u32 0] 34)).alloc (.cells #[.int .i64 ((l.length:Int)+(m.length:Int))] 3)) (w.heap.size+1+1+1) 31 (.slice Al m.length cl)):=by
  have:=((Boxed.new (((w.alloc (.cells #[.string p.name,.slice A1 p.vars.length k1,.slice A2 p.rules.length k2] 25)).alloc (.cells #[.slice A3 g.ids.length k3,.slice A4 g.ports.length k4] 29)).alloc (.cells #[.slice Ap l.length cp] 31)) 31 (.slice Al m.length cl)).alloc (.cells #[.int .u32 0] 34)).alloc (.cells #[.int .i64 ((l.length:Int)+(m.length:Int))] 3);rw [World.size_alloc,World.size_alloc,World.size_alloc] at this;exact this
 have HV4:Hid (Boxed ((((((w.alloc (.cells #[.string p.name,.slice A1 p.vars.length k1,.slice A2 p.rules.length k2] 25)).alloc (.cells #[.slice A3 g.ids.length k3,.slice A4 g.ports.length k4] 29)).alloc (.cells #[.slice Ap l.length cp] 31)).alloc (.cells #[.slice Al m.length cl] 31)).alloc (.cells #[.int .u32 0] 34)).alloc (.cells #[.int .i64 ((l.length:Int)+(m.length:Int))] 3)) (w.heap.size+1+1+1+1) 34 (.int .u32 0)):=by
  have:=(Boxed.new ((((w.alloc (.cells #[.string p.name,.slice A1 p.vars.length k1,.slice A2 p.rules.length k2] 25)).alloc (.cells #[.slice A3 g.ids.length k3,.slice A4 g.ports.length k4] 29)).alloc (.cells #[.slice Ap l.length cp] 31)).alloc (.cells #[.slice Al m.length cl] 31)) 34 (.int .u32 0)).alloc (.cells #[.int .i64 ((l.length:Int)+(m.length:Int))] 3);rw [World.size_alloc,World.size_alloc,World.size_alloc,World.size_alloc] at this;exact this
 have HN4:Hid (Boxed ((((((w.alloc (.cells #[.string p.name,.slice A1 p.vars.length k1,.slice A2 p.rules.length k2] 25)).alloc (.cells #[.slice A3 g.ids.length k3,.slice A4 g.ports.length k4] 29)).alloc (.cells #[.slice Ap l.length cp] 31)).alloc (.cells #[.slice Al m.length cl] 31)).alloc (.cells #[.int .u32 0] 34)).alloc (.cells #[.int .i64 ((l.length:Int)+(m.length:Int))] 3)) (w.heap.size+1+1+1+1+1) 3 (.int .i64 ((l.length:Int)+(m.length:Int)))):=by
  have:=Boxed.new (((((w.alloc (.cells #[.string p.name,.slice A1 p.vars.length k1,.slice A2 p.rules.length k2] 25)).alloc (.cells #[.slice A3 g.ids.length k3,.slice A4 g.ports.length k4] 29)).alloc (.cells #[.slice Ap l.length cp] 31)).alloc (.cells #[.slice Al m.length cl] 31)).alloc (.cells #[.int .u32 0] 34)) 3 (.int .i64 ((l.length:Int)+(m.length:Int)));rw [World.size_alloc,World.size_alloc,World.size_alloc,World.size_alloc,World.size_alloc] at this;exact this
 replace HW:=(((HW.alloc (.cells #[.slice Ap l.length cp] 31)).alloc (.cells #[.slice Al m.length cl] 31)).alloc (.cells #[.int .u32 0] 34)).alloc (.cells #[.int .i64 ((l.length:Int)+(m.length:Int))] 3);have HF:Hid (aH0 p g kind c l m=if aI0 p g kind c ((l.length:Int)+(m.length:Int))≠0 then aI0 p g kind c ((l.length:Int)+(m.length:Int)) else if m=[] then 7 else if aD0 p g kind c l m=none then 11 else 0):=rfl
 by_cases hb0:aI0 p g kind c ((l.length:Int)+(m.length:Int))=0
 .rw [if_neg (by simpa using hb0)] at HF
  have HB0:=aA0 hb0;have HM:=aA0 (aDc hb0).1;have HC:=aA0 (aAp (aB8 (aDc hb0).1).1);clear hb0
  by_cases hm0:m=[]
  .rw [if_pos hm0] at HF
   have HLB:Hid (aPa p g kind c l m=false):=aNm (by rw [HF.out];decide)
   have d0:((m.length:Int)==0)=true:=by simp [hm0]
   have d0':(m.length==0)=true:=by simp [hm0]
   clear hm0;go_enter func52,ntmps52
   go_wp2_with (go_at_call 35;refine (aF3 _ p _ g _ c kind ((l.length:Int)+(m.length:Int)) _ (HPV.out _ (aA1 HW)) (HGV.out _ (aA1 HW)) (HCV.out _ (aA1 HW)) HL.out HGL.out HCL.out).mono ?_;rintro e w2 ⟨rfl,hb⟩;rw [HB0.out];replace HP4:=aA0 (aAh HP4.out hb);replace HL4:=aA0 (aAh HL4.out hb);replace HV4:=aA0 (aAh HV4.out hb);replace HN4:=aA0 (aAh HN4.out hb);replace HW:=HW.trans hb;clear hb;(try clear p0 p1 p2 g0 g1 gsz);obtain ⟨p0,p1,p2,g0,g1,gsz⟩:=aAd HW;(try clear e0 ef ez);obtain ⟨e0,ef,ez⟩:=aA4 HP4.out;(try clear h0 hf hz);obtain ⟨h0,hf,hz⟩:=aA4 HL4.out;(try clear r0 rf rz);obtain ⟨r0,rf,rz⟩:=aA4 HV4.out;(try clear j0 jf jz);obtain ⟨j0,jf,jz⟩:=aA4 HN4.out)
   have y0:(w2.setCell ⟨(w.heap.size+1+1+1+1),0,none⟩ (.int .u32 0)).cell? ⟨(w.heap.size+1+1+1+1),0,none⟩=some (.int .u32 0):=(Boxed.set _ (show Boxed w2 _ _ _ from HV4.out)).cell
   refine bodyPost_ret (v := .tuple #[.bool false,.int .u32 0,.int .i64 7]) (by simp [results,Tryz.results52,go_sem,y0];try go_simp) rfl ?_
   rw [HLB.out,HF.out];exact ⟨0,rfl,fun h=>absurd h (by decide),by decide,(aA1 HW).setCell (by show _<=(w.heap.size+1+1+1+1);omega) _⟩
  .rw [if_neg hm0] at HF
   have HMZ:=aA0 hm0;have hmp:0<m.length:=Nat.pos_of_ne_zero fun e=>hm0 (List.eq_nil_of_length_eq_zero e);have d0:((m.length:Int)==0)=false:=by simp;omega
   have d0':(m.length==0)=false:=by simp;omega
   clear hm0;obtain ⟨lm,hlm⟩:∃ lm,lm=l++m:=⟨_,rfl⟩;have HLE:=aA0 hlm;have HLM:Hid (lm.length=l.length+m.length):=by rw [hlm];exact List.length_append
   have H3:Hid (∀ y∈lm,y<4294967296):=by rw [hlm];exact fun y hy=>(List.mem_append.1 hy).elim (H32.out y) (H322.out y)
   obtain ⟨r,hr⟩:∃ r,aB1 p g kind (aAe p g c) (l++m)=r:=⟨_,rfl⟩;have HPR:Hid (aB1 p g kind (aAe p g c) lm=r):=by rw [hlm];exact hr
   have HRX:Hid (aKx p g kind (fun i _=>lm.getD i 0) (fun _ _=>true) lm.length 0 (aAe p g c)=r):=(bAh lm).trans HPR.out
   have HER:Hid (aH0 p g kind c l m=(aD2 r).2):=by
    show aH0 p g kind c l m=(aD2 r).2
    rw [HF.out];cases r with
    | none=>rw [if_pos (aWl hr)];rfl
    | some t =>
     obtain ⟨a,b,hP⟩:=aL9 HM.out H32.out H322.out hr;rw [if_neg (by rw [hP.round];simp)];rfl
   clear hr hlm;go_enter func52,ntmps52
   go_upto_region 10 with (first
    | (go_at_call 35;refine (aF3 _ p _ g _ c kind ((l.length:Int)+(m.length:Int)) _ (HPV.out _ (aA1 HW)) (HGV.out _ (aA1 HW)) (HCV.out _ (aA1 HW)) HL.out HGL.out HCL.out).mono ?_;rintro e w2 ⟨rfl,hb⟩;rw [HB0.out];replace HP4:=aA0 (aAh HP4.out hb);replace HL4:=aA0 (aAh HL4.out hb);replace HV4:=aA0 (aAh HV4.out hb);replace HN4:=aA0 (aAh HN4.out hb);replace HW:=HW.trans hb;clear hb;(try clear p0 p1 p2 g0 g1 gsz);obtain ⟨p0,p1,p2,g0,g1,gsz⟩:=aAd HW;(try clear e0 ef ez);obtain ⟨e0,ef,ez⟩:=aA4 HP4.out;(try clear h0 hf hz);obtain ⟨h0,hf,hz⟩:=aA4 HL4.out;(try clear r0 rf rz);obtain ⟨r0,rf,rz⟩:=aA4 HV4.out;(try clear j0 jf jz);obtain ⟨j0,jf,jz⟩:=aA4 HN4.out;have HS4:Hid (Boxed ((w2.alloc (.cells #[.slice none 0 0] 30)).alloc (.cells #[.int .i64 0] 3)) w2.heap.size 30 (.slice none 0 0)):=(Boxed.new w2 30 (.slice none 0 0)).alloc _;have HA4:Hid (Boxed ((w2.alloc (.cells #[.slice none 0 0] 30)).alloc (.cells #[.int .i64 0] 3)) (w2.heap.size+1) 3 (.int .i64 0)):=(by have:=Boxed.new (w2.alloc (.cells #[.slice none 0 0] 30)) 3 (.int .i64 0);rw [World.size_alloc] at this;exact this);have HSZ2:=aA0 HN4.out.lt;have gs1:w.heap.size<w2.heap.size:=(by omega);have gs3:w.heap.size<w2.heap.size+1:=(by omega);have gs4:w.heap.size+1<w2.heap.size+1:=(by omega))
    | (go_at_call 36;have hal:Bel w2 ((w2.alloc (.cells #[.slice none 0 0] 30)).alloc (.cells #[.int .i64 0] 3)):=((Bel.refl w2).alloc (.cells #[.slice none 0 0] 30)).alloc (.cells #[.int .i64 0] 3);replace HW:=HW.trans hal;replace HP4:=aA0 (aAh HP4.out hal);replace HL4:=aA0 (aAh HL4.out hal);replace HV4:=aA0 (aAh HV4.out hal);replace HN4:=aA0 (aAh HN4.out hal);clear hal;refine (aKj _ p _ g kind 77 #[.pointer (some ⟨w2.heap.size+1,0,none⟩),.pointer (some ⟨(w.heap.size+1+1),0,none⟩),.pointer (some ⟨w2.heap.size,0,none⟩),.pointer (some ⟨(w.heap.size+1+1+1+1+1),0,none⟩),.pointer (some ⟨(w.heap.size+1+1+1+1),0,none⟩),.pointer (some ⟨(w.heap.size+1+1+1),0,none⟩)] _ (HPV.out _ (aA1 HW)) (HGV.out _ (aA1 HW)) HC.out.1 HC.out.2.1 HGL.out).mono ?_;rintro e w3 ⟨B,Ac,cn,rfl,hRn,hb⟩;have hq2:=hb.size;rw [World.size_alloc,World.size_alloc] at hq2;replace HP4:=aA0 (aAh HP4.out hb);replace HL4:=aA0 (aAh HL4.out hb);replace HV4:=aA0 (aAh HV4.out hb);replace HN4:=aA0 (aAh HN4.out hb);replace HS4:=aA0 (aAh HS4.out hb);replace HA4:=aA0 (aAh HA4.out hb);replace HW:=HW.trans hb;clear hb;(try clear p0 p1 p2 g0 g1 gsz);obtain ⟨p0,p1,p2,g0,g1,gsz⟩:=aAd HW;(try clear e0 ef ez h0 hf hz r0 rf rz j0 jf jz);have HSZ3:=aA0 hq2;have HRB:Hid (Rb (fun k=>k=w2.heap.size+1∨k=(w.heap.size+1+1)∨k=w2.heap.size∨k=(w.heap.size+1+1+1+1+1)∨k=(w.heap.size+1+1+1+1)∨k=(w.heap.size+1+1+1)) (fun W=>aDb W B p g/\aKw W Ac g/\aCt W) w3):=(fun W hW=>(have kk:Bel w W:=(Agr.belE (aA1 HW) hW (fun k hk=>by have:=HSZ2.out;omega));have q:=hRn W ⟨hW.size,fun i hN hi=>hW.block i hi (fun e=>by rw [World.size_alloc,World.size_alloc] at hN;have:=HSZ2.out;omega)⟩ (HPV.out _ kk) (HGV.out _ kk);⟨q.1,q.2,(HMK.out _ kk).2.2⟩));clear hRn hq2))
   have HX19:Hid (Blk (w3.alloc (.cells #[.pointer (some ⟨B,0,none⟩),.slice Ac g.ports.length cn,.int .i64 kind,.int .u32 (aBw g.ports.length (fun _=>true):Nat),.func (.func 77) #[] #[.pointer (some ⟨w2.heap.size+1,0,none⟩),.pointer (some ⟨(w.heap.size+1+1),0,none⟩),.pointer (some ⟨w2.heap.size,0,none⟩),.pointer (some ⟨(w.heap.size+1+1+1+1+1),0,none⟩),.pointer (some ⟨(w.heap.size+1+1+1+1),0,none⟩),.pointer (some ⟨(w.heap.size+1+1+1),0,none⟩)]] 69)) w3.heap.size #[.pointer (some ⟨B,0,none⟩),.slice Ac g.ports.length cn,.int .i64 kind,.int .u32 (aBw g.ports.length (fun _=>true):Nat),.func (.func 77) #[] #[.pointer (some ⟨w2.heap.size+1,0,none⟩),.pointer (some ⟨(w.heap.size+1+1),0,none⟩),.pointer (some ⟨w2.heap.size,0,none⟩),.pointer (some ⟨(w.heap.size+1+1+1+1+1),0,none⟩),.pointer (some ⟨(w.heap.size+1+1+1+1),0,none⟩),.pointer (some ⟨(w.heap.size+1+1+1),0,none⟩)]] 69):=Blk.new _ _ _;have hal:Bel w3 (w3.alloc (.cells #[.pointer (some ⟨B,0,none⟩),.slice Ac g.ports.length cn,.int .i64 kind,.int .u32 (aBw g.ports.length (fun _=>true):Nat),.func (.func 77) #[] #[.pointer (some ⟨w2.heap.size+1,0,none⟩),.pointer (some ⟨(w.heap.size+1+1),0,none⟩),.pointer (some ⟨w2.heap.size,0,none⟩),.pointer (some ⟨(w.heap.size+1+1+1+1+1),0,none⟩),.pointer (some ⟨(w.heap.size+1+1+1+1),0,none⟩),.pointer (some ⟨(w.heap.size+1+1+1),0,none⟩)]] 69)):=(Bel.refl w3).alloc _;replace HP4:=aA0 (aAh HP4.out hal);replace HL4:=aA0 (aAh HL4.out hal);replace HV4:=aA0 (aAh HV4.out hal);replace HN4:=aA0 (aAh HN4.out hal);replace HS4:=aA0 (aAh HS4.out hal);replace HA4:=aA0 (aAh HA4.out hal);replace HRB:=aA0 (HRB.out.bel hal);replace HW:=HW.trans hal;clear hal;generalize w3.alloc (.cells #[.pointer (some ⟨B,0,none⟩),.slice Ac g.ports.length cn,.int .i64 kind,.int .u32 (aBw g.ports.length (fun _=>true):Nat),.func (.func 77) #[] #[.pointer (some ⟨w2.heap.size+1,0,none⟩),.pointer (some ⟨(w.heap.size+1+1),0,none⟩),.pointer (some ⟨w2.heap.size,0,none⟩),.pointer (some ⟨(w.heap.size+1+1+1+1+1),0,none⟩),.pointer (some ⟨(w.heap.size+1+1+1+1),0,none⟩),.pointer (some ⟨(w.heap.size+1+1+1),0,none⟩)]] 69)=W4 at *;have HB19N0:Hid (w2.heap.size+1<w3.heap.size/\(w.heap.size+1+1+1+1+1)<w3.heap.size):=⟨by have:=HSZ3.out;omega,by have:=HSZ3.out;have:=HSZ2.out;omega⟩
   generalize w3.heap.size=b19 at *
   have HI:Hid (RepI w.heap.size (fun t=>aAk p g t.last) (w2.heap.size+1) (w.heap.size+1+1) w2.heap.size (w.heap.size+1+1+1+1+1) (w.heap.size+1+1+1+1) (w.heap.size+1+1+1) Ap l.length cp Al cl m (fun k=>k=w2.heap.size+1∨k=(w.heap.size+1+1)∨k=w2.heap.size∨k=(w.heap.size+1+1+1+1+1)∨k=(w.heap.size+1+1+1+1)∨k=(w.heap.size+1+1+1)) [] W4):=⟨HA4.out,HP4.out,HS4.out,(by have h:=HN4.out;rw [<- Int.natCast_add] at h;exact h),(by have e:aC9 (fun t=>aAk p g t.last) ([]:List (Value × Trc)) l.length m=0:=(by unfold aC9;simp [aT6]);rw [e];exact HV4.out),HL4.out,fun k hk=>hk,fun k hk=>by
    rcases hk with rfl | rfl | rfl | rfl | rfl | rfl
    .exact HA4.out.lt
    .exact HP4.out.lt
    .exact HS4.out.lt
    .exact HN4.out.lt
    .exact HV4.out.lt
    .exact HL4.out.lt,fun W hz hk=>HLOW.out W (Nat.le_trans (aA1 HW).size hz) fun k hk2=>(hk k hk2).trans ((aA1 HW).block k hk2)⟩
   have HWB:=aA0 (aA1 HW);have H6:Hid (Six (w2.heap.size+1) (w.heap.size+1+1) w2.heap.size (w.heap.size+1+1+1+1+1) (w.heap.size+1+1+1+1) (w.heap.size+1+1+1)):=⟨by omega,by omega,by omega,by have:=HSZ2.out;omega,by omega⟩
   have HB19N:Hid (w2.heap.size+1<b19/\(w.heap.size+1+1+1+1+1)<b19):=HB19N0
   (try clear p0 p1 p2 g0 g1 gsz gs1 gs3 gs4)
   have hcell:Hid (∀ w',Bel W4 w'->(fun w'=>w'.cell? ⟨b19,0,none⟩=some (.pointer (some ⟨B,0,none⟩))/\w'.cell? ⟨b19,1,none⟩=some (.slice Ac g.ports.length cn)/\w'.cell? ⟨b19,2,none⟩=some (.int .i64 kind)/\w'.cell? ⟨b19,3,none⟩=some (.int .u32 (aBw g.ports.length (fun _=>true):Nat))/\w'.cell? ⟨b19,4,none⟩=some (.func (.func 77) #[] #[.pointer (some ⟨w2.heap.size+1,0,none⟩),.pointer (some ⟨(w.heap.size+1+1),0,none⟩),.pointer (some ⟨w2.heap.size,0,none⟩),.pointer (some ⟨(w.heap.size+1+1+1+1+1),0,none⟩),.pointer (some ⟨(w.heap.size+1+1+1+1),0,none⟩),.pointer (some ⟨(w.heap.size+1+1+1),0,none⟩)])/\b19<w'.heap.size/\w'.cell? ⟨(w.heap.size+1+1),0,none⟩=some (.slice Ap l.length cp)/\w'.cell? ⟨(w.heap.size+1+1+1),0,none⟩=some (.slice Al m.length cl)/\(w.heap.size+1+1)<w'.heap.size/\(w.heap.size+1+1+1)<w'.heap.size) w'):=fun w' k=>have r:=HX19.out.keep k;have q:=aAh HP4.out k;have u:=aAh HL4.out k;⟨r.cell 0 rfl,r.cell 1 rfl,r.cell 2 rfl,r.cell 3 rfl,r.cell 4 rfl,r.lt,q.cell,u.cell,q.lt,u.lt⟩
   go_cut [20,14] (fun pv ev wc=>∃ (oA:Option Addr) (ok:Nat) (oB:Option Addr) (ol:Nat) (oC:Option Addr) (om:Nat) (bt:Nat),pv = .pointer (some ⟨bt,0,none⟩)/\ev = .int .i64 (aD2 r).2/\Hid (Blk wc bt #[.slice oA (aD2 r).1.chosen.length ok,.slice oB (aD2 r).1.enabled.length ol,.slice oC (aD2 r).1.last.length om,.int .i64 (aD2 r).1.count.steps,.int .i64 (aD2 r).1.count.moves,.int .i64 (aD2 r).1.count.rounds,.int .i64 (aD2 r).1.count.begun,.int .u32 ((aD2 r).1.count.pending:Int)] 38)/\Hid (bAw p g kind c l m w2.heap.size (w.heap.size+1+1+1+1) r wc)/\Hid (aAw wc (.slice oC (aD2 r).1.last.length om) (aD2 r).1.last)/\Bel w wc)
   case first =>
    refine aA7.start (fun w'=>w'.cell? ⟨b19,0,none⟩=some (.pointer (some ⟨B,0,none⟩))/\w'.cell? ⟨b19,1,none⟩=some (.slice Ac g.ports.length cn)/\w'.cell? ⟨b19,2,none⟩=some (.int .i64 kind)/\w'.cell? ⟨b19,3,none⟩=some (.int .u32 (aBw g.ports.length (fun _=>true):Nat))/\w'.cell? ⟨b19,4,none⟩=some (.func (.func 77) #[] #[.pointer (some ⟨w2.heap.size+1,0,none⟩),.pointer (some ⟨(w.heap.size+1+1),0,none⟩),.pointer (some ⟨w2.heap.size,0,none⟩),.pointer (some ⟨(w.heap.size+1+1+1+1+1),0,none⟩),.pointer (some ⟨(w.heap.size+1+1+1+1),0,none⟩),.pointer (some ⟨(w.heap.size+1+1+1),0,none⟩)])/\b19<w'.heap.size/\w'.cell? ⟨(w.heap.size+1+1),0,none⟩=some (.slice Ap l.length cp)/\w'.cell? ⟨(w.heap.size+1+1+1),0,none⟩=some (.slice Al m.length cl)/\(w.heap.size+1+1)<w'.heap.size/\(w.heap.size+1+1+1)<w'.heap.size) 12 (by kernel_rfl) ?_
    have HB:=(Bel.refl W4).drew;have hHeld:=hcell.out _ HB
    (refine aA7.t (v:=?_) 0 44 rfl rfl (by kernel_rfl) (fun _ _ _ h=>h) hHeld (Or.inl ⟨by rfl,?_⟩) ?_;rotate_left 1;focus (intro w' hSw;(try dsimp only at hSw);go_simp;(try with_reducible rfl);done))
    (refine aA7.t (v:=?_) 1 45 rfl rfl (by kernel_rfl) (fun _ _ _ h=>h) hHeld (Or.inl ⟨by rfl,?_⟩) ?_;rotate_left 1;focus (intro w' hSw;(try dsimp only at hSw);go_simp;(try with_reducible rfl);done))
    (refine aA7.t (v:=?_) 2 46 rfl rfl (by kernel_rfl) (fun _ _ _ h=>h) hHeld (Or.inl ⟨by rfl,?_⟩) ?_;rotate_left 1;focus (intro w' hSw;(try dsimp only at hSw);go_simp;(try with_reducible rfl);done))
    (refine aA7.t (v:=?_) 3 47 rfl rfl (by kernel_rfl) (fun _ _ _ h=>h) hHeld (Or.inl ⟨by rfl,?_⟩) ?_;rotate_left 1;focus (intro w' hSw;(try dsimp only at hSw);go_simp;(try with_reducible rfl);done))
    clear hHeld
    (try simp only [Act.put,List.setIfInBounds_toArray,List.set_cons_zero,List.set_cons_succ])
    refine aA7.two (i:=4) (j:=10) (by kernel_rfl) rfl rfl (fun K hK=>?_) (fun K hK=>?_)
    .
     (try go_simp)
     replace HB:=((Bel.refl W4).alloc (.cells #[.slice Ap l.length cp,.slice Al m.length cl] 31)).drew;refine hK.out _ _ (fun _=>hcell.out _ HB) ?_
     clear hK K
     (try simp only [Act.put,List.setIfInBounds_toArray,List.set_cons_zero,List.set_cons_succ])
     have HSl:=aA0 ((Blk.new W4 #[.slice Ap l.length cp,.slice Al m.length cl] 31).drew);generalize (W4.alloc (.cells #[.slice Ap l.length cp,.slice Al m.length cl] 31)).drew=V0_4 at *;generalize hgE:W4.heap.size=gS at HSl ⊢;clear hgE;refine aA7.two (i:=5) (j:=10) (by kernel_rfl) rfl rfl (fun K hK=>?_) (fun K hK=>?_)
     .go_simp
      go_at_call 78
      have hms:=HMK.out _ (HWB.out.trans HB);have hcc:=aL1 gS Ap cp l Al cl m _ HSl.out.lt (HSl.out.cell 0 rfl) (HSl.out.cell 1 rfl) hms.1 hms.2.1 (by omega) hmp
      rw [<- HLE.out] at hcc;refine hcc.mono ?_
      clear hms hcc;rintro e V1_5 ⟨A,cA,rfl,hO,hb⟩
      (try go_simp)
      have hbase:Hid (W4.heap.size<=V0_4.heap.size):=HB.size;have HRow:=aA0 hO;replace HB:=HB.trans hb;clear hO hb HSl;refine hK.out _ _ (fun _=>hcell.out _ HB) ?_
      clear hK K
      (try simp only [Act.put,List.setIfInBounds_toArray,List.set_cons_zero,List.set_cons_succ])
      refine aA7.two (i:=6) (j:=10) (by kernel_rfl) rfl rfl (fun K hK=>?_) (fun K hK=>?_)
      .go_simp
       go_at_call 38
       have HRC:Rb (fun k=>k=w2.heap.size+1∨k=(w.heap.size+1+1)∨k=w2.heap.size∨k=(w.heap.size+1+1+1+1+1)∨k=(w.heap.size+1+1+1+1)∨k=(w.heap.size+1+1+1)) (fun W=>aDb W B p g/\aKw W Ac g/\aCt W/\aAa W A lm.length lm) V1_5:=fun W hW=>have q:=(HRB.out.bel HB) W hW;⟨q.1,q.2.1,q.2.2,aDt (aD9 HRow.out hW (fun k hk e=>by have h1:=(aAf HRow.out k hk.symm).1;have h2:=hbase.out;have h3:=HI.out.dom k e;omega))⟩
       have hw0:=(HWB.out.trans HB).size;have hw1:=HWB.out.size;have hseer:=aHe (ba:=w2.heap.size+1) (bp:=(w.heap.size+1+1)) (bs:=w2.heap.size) (bn:=(w.heap.size+1+1+1+1+1)) (bv:=(w.heap.size+1+1+1+1)) (bl:=(w.heap.size+1+1+1)) (Ap:=Ap) (np:=l.length) (cp:=cp) (Al:=Al) (cl:=cl) (l:=m) w.heap.size p g H6.out (by omega) (by omega) (by omega) H322.out
       have hcall:=aMm (Inv:=fun M s w0=>RepI w.heap.size (fun t=>aAk p g t.last) (w2.heap.size+1) (w.heap.size+1+1) w2.heap.size (w.heap.size+1+1+1+1+1) (w.heap.size+1+1+1+1) (w.heap.size+1+1+1) Ap l.length cp Al cl m M s w0) B Ac cn p g kind 77 #[.pointer (some ⟨w2.heap.size+1,0,none⟩),.pointer (some ⟨(w.heap.size+1+1),0,none⟩),.pointer (some ⟨w2.heap.size,0,none⟩),.pointer (some ⟨(w.heap.size+1+1+1+1+1),0,none⟩),.pointer (some ⟨(w.heap.size+1+1+1+1),0,none⟩),.pointer (some ⟨(w.heap.size+1+1+1),0,none⟩)] (.slice A5 c.length k5) c A cA lm (fun k=>k=w2.heap.size+1∨k=(w.heap.size+1+1)∨k=w2.heap.size∨k=(w.heap.size+1+1+1+1+1)∨k=(w.heap.size+1+1+1+1)∨k=(w.heap.size+1+1+1)) [] V1_5 w.heap.size hw0 hseer (HI.out.bel HB hw1) HRC (HCV.out _ (HWB.out.trans HB)) HM.out HL.out H3.out (by rw [HLM.out];omega) (by decide)
       clear hseer HRC hw0 hw1;refine hcall.mono ?_
       clear hcall;rintro e V2_6 hret;have HAG0:=aA0 hret.agr;obtain ⟨oA,ok,oB,ol,oC,om,rfl,hfin⟩:=aQz HLE.out hret HRX.out HPR.out H322.out;have HFIN:=aA0 hfin;clear hret hfin
       (try go_simp)
       have HBw:Hid (Bel w V2_6):=Agr.belE (HWB.out.trans HB) HAG0.out (fun k hk=>by have:=HSZ2.out;omega)
       have HB19:Hid (Blk V2_6 b19 #[.pointer (some ⟨B,0,none⟩),.slice Ac g.ports.length cn,.int .i64 kind,.int .u32 (aBw g.ports.length (fun _=>true):Nat),.func (.func 77) #[] #[.pointer (some ⟨w2.heap.size+1,0,none⟩),.pointer (some ⟨(w.heap.size+1+1),0,none⟩),.pointer (some ⟨w2.heap.size,0,none⟩),.pointer (some ⟨(w.heap.size+1+1+1+1+1),0,none⟩),.pointer (some ⟨(w.heap.size+1+1+1+1),0,none⟩),.pointer (some ⟨(w.heap.size+1+1+1),0,none⟩)]] 69):=HAG0.out.blk (HX19.out.keep HB) (fun e=>by have h3:=HB19N.out;omega)
       have hS6:Hid (∀ wF,Agr (fun k=>k<V1_5.heap.size/\k≠w2.heap.size/\k≠(w.heap.size+1+1+1+1)/\k≠(w.heap.size+1+1)/\k≠(w.heap.size+1+1+1)/\k≠b19) V2_6 wF->(fun w'=>w'.cell? ⟨b19,0,none⟩=some (.pointer (some ⟨B,0,none⟩))/\w'.cell? ⟨b19,1,none⟩=some (.slice Ac g.ports.length cn)/\w'.cell? ⟨b19,2,none⟩=some (.int .i64 kind)/\w'.cell? ⟨b19,3,none⟩=some (.int .u32 (aBw g.ports.length (fun _=>true):Nat))/\w'.cell? ⟨b19,4,none⟩=some (.func (.func 77) #[] #[.pointer (some ⟨w2.heap.size+1,0,none⟩),.pointer (some ⟨(w.heap.size+1+1),0,none⟩),.pointer (some ⟨w2.heap.size,0,none⟩),.pointer (some ⟨(w.heap.size+1+1+1+1+1),0,none⟩),.pointer (some ⟨(w.heap.size+1+1+1+1),0,none⟩),.pointer (some ⟨(w.heap.size+1+1+1),0,none⟩)])/\b19<w'.heap.size/\w'.cell? ⟨(w.heap.size+1+1),0,none⟩=some (.slice Ap l.length cp)/\w'.cell? ⟨(w.heap.size+1+1+1),0,none⟩=some (.slice Al m.length cl)/\(w.heap.size+1+1)<w'.heap.size/\(w.heap.size+1+1+1)<w'.heap.size) wF):=fun wF hag=>by
        have q:=HFIN.out wF (hag.mono fun k hk=>⟨hk.1,hk.2.1,hk.2.2.1,hk.2.2.2.1,hk.2.2.2.2.1⟩);have r:Blk wF b19 #[.pointer (some ⟨B,0,none⟩),.slice Ac g.ports.length cn,.int .i64 kind,.int .u32 (aBw g.ports.length (fun _=>true):Nat),.func (.func 77) #[] #[.pointer (some ⟨w2.heap.size+1,0,none⟩),.pointer (some ⟨(w.heap.size+1+1),0,none⟩),.pointer (some ⟨w2.heap.size,0,none⟩),.pointer (some ⟨(w.heap.size+1+1+1+1+1),0,none⟩),.pointer (some ⟨(w.heap.size+1+1+1+1),0,none⟩),.pointer (some ⟨(w.heap.size+1+1+1),0,none⟩)]] 69:=hag.blk HB19.out (fun h=>h.2.2.2.2.2 rfl);exact ⟨r.cell 0 rfl,r.cell 1 rfl,r.cell 2 rfl,r.cell 3 rfl,r.cell 4 rfl,r.lt,q.2.1.cell,q.2.2.1.cell,q.2.1.lt,q.2.2.1.lt⟩
       have hqs:V1_5.heap.size<=V2_6.heap.size:=HAG0.out.size;refine hK.out _ _ (fun _=>hS6.out _ (Agr.refl _ _)) ?_
       clear hK K
       (try simp only [Act.put,List.setIfInBounds_toArray,List.set_cons_zero,List.set_cons_succ])
       have hHeld:=hS6.out _ (Agr.refl _ _)
       (refine aA7.t (v:=?_) 7 43 rfl rfl (by kernel_rfl) (fun _ _ _ h=>h) hHeld (Or.inl ⟨by rfl,?_⟩) ?_;rotate_left 1;focus (intro w' hSw;(try dsimp only at hSw);go_simp;(try with_reducible rfl);done))
       (refine aA7.t (v:=?_) 8 51 rfl rfl (by kernel_rfl) (fun _ _ _ h=>h) hHeld (Or.inl ⟨by rfl,?_⟩) ?_;rotate_left 1;focus (intro w' hSw;(try dsimp only at hSw);go_simp;(try with_reducible rfl);done))
       (refine aA7.t (v:=?_) 9 52 rfl rfl (by kernel_rfl) (fun _ _ _ h=>h) hHeld (Or.inl ⟨by rfl,?_⟩) ?_;rotate_left 1;focus (intro w' hSw;(try dsimp only at hSw);go_simp;(try with_reducible rfl);done))
       clear hHeld
       (try simp only [Act.put,List.setIfInBounds_toArray,List.set_cons_zero,List.set_cons_succ])
       refine aA7.one (i:=10) (by kernel_rfl) rfl (fun K hK=>?_)
       (try go_simp)
       refine hK.out _ _ (fun _=>hS6.out _ (Agr.alloc _ _ _)) ?_
       clear hK K
       (try simp only [Act.put,List.setIfInBounds_toArray,List.set_cons_zero,List.set_cons_succ])
       refine aA7.one (i:=11) (by kernel_rfl) rfl (fun K hK=>?_)
       go_simp
       refine hK.out _ _ (fun _=>hS6.out _ (Agr.alloc _ _ _)) ?_
       clear hK K
       (try simp only [Act.put,List.setIfInBounds_toArray,List.set_cons_zero,List.set_cons_succ])
       refine aA7.one (i:=12) (by kernel_rfl) rfl (fun K hK=>?_)
       go_simp
       refine hK.out _ _ (fun h=>absurd rfl h) ?_
       clear hK K;refine aA7.done (by kernel_rfl) ?_ _
       go_wp2_with fail
       go_meet
       have hq:=HFIN.out _ (Agr.alloc _ V2_6 (.cells #[.slice oA (aD2 r).1.chosen.length ok,.slice oB (aD2 r).1.enabled.length ol,.slice oC (aD2 r).1.last.length om,.int .i64 (aD2 r).1.count.steps,.int .i64 (aD2 r).1.count.moves,.int .i64 (aD2 r).1.count.rounds,.int .i64 (aD2 r).1.count.begun,.int .u32 ((aD2 r).1.count.pending:Int)] 38));exact ⟨oA,ok,oB,ol,oC,om,_,rfl,rfl,Blk.new _ _ _,hq.1,hq.2.2.2,HBw.out.alloc _⟩
      .
       (try go_simp)
       refine hK.out _ _ (fun _=>hcell.out _ (HB.alloc (.cells #[.slice none 0 0,.slice none 0 0,.slice none 0 0,.int .i64 0,.int .i64 0,.int .i64 0,.int .i64 0,.int .u32 0] 38))) ?_
       clear hK K
       (try simp only [Act.put,List.setIfInBounds_toArray,List.set_cons_zero,List.set_cons_succ])
       have HZT:=aA0 (Blk.new V1_5 #[.slice none 0 0,.slice none 0 0,.slice none 0 0,.int .i64 0,.int .i64 0,.int .i64 0,.int .i64 0,.int .u32 0] 38);have hb1:Bel V1_5 (V1_5.alloc (.cells #[.slice none 0 0,.slice none 0 0,.slice none 0 0,.int .i64 0,.int .i64 0,.int .i64 0,.int .i64 0,.int .u32 0] 38)):=(Bel.refl V1_5).alloc (.cells #[.slice none 0 0,.slice none 0 0,.slice none 0 0,.int .i64 0,.int .i64 0,.int .i64 0,.int .i64 0,.int .u32 0] 38);have hbt4:Hid (W4.heap.size<=V1_5.heap.size):=HB.size;replace HRow:=aA0 (hb1.owns HRow.out);replace HB:=HB.trans hb1;clear hb1;generalize V1_5.alloc (.cells #[.slice none 0 0,.slice none 0 0,.slice none 0 0,.int .i64 0,.int .i64 0,.int .i64 0,.int .i64 0,.int .u32 0] 38)=V2_10 at *;obtain ⟨bt,hbtE⟩:∃ q,V1_5.heap.size=q:=⟨_,rfl⟩;replace hbt4:Hid (W4.heap.size<=bt):=hbtE ▸ hbt4.out;rw [hbtE] at HZT ⊢;clear hbtE;refine aA7.one (i:=6) (by kernel_rfl) rfl (fun K hK=>?_)
       have HBTQ:=aA0 HZT.out.lt
       go_simp
       go_at_call 38
       have HRC:Rb (fun k=>k=w2.heap.size+1∨k=(w.heap.size+1+1)∨k=w2.heap.size∨k=(w.heap.size+1+1+1+1+1)∨k=(w.heap.size+1+1+1+1)∨k=(w.heap.size+1+1+1)) (fun W=>aDb W B p g/\aKw W Ac g/\aCt W/\aAa W A lm.length lm) V2_10:=fun W hW=>have q:=(HRB.out.bel HB) W hW;⟨q.1,q.2.1,q.2.2,aDt (aD9 HRow.out hW (fun k hk e=>by have h1:=(aAf HRow.out k hk.symm).1;have h2:=hbase.out;have h3:=HI.out.dom k e;omega))⟩
       have hw0:=(HWB.out.trans HB).size;have hw1:=HWB.out.size;have hseer:=aHe (ba:=w2.heap.size+1) (bp:=(w.heap.size+1+1)) (bs:=w2.heap.size) (bn:=(w.heap.size+1+1+1+1+1)) (bv:=(w.heap.size+1+1+1+1)) (bl:=(w.heap.size+1+1+1)) (Ap:=Ap) (np:=l.length) (cp:=cp) (Al:=Al) (cl:=cl) (l:=m) w.heap.size p g H6.out (by omega) (by omega) (by omega) H322.out
       have hcall:=aMm (Inv:=fun M s w0=>RepI w.heap.size (fun t=>aAk p g t.last) (w2.heap.size+1) (w.heap.size+1+1) w2.heap.size (w.heap.size+1+1+1+1+1) (w.heap.size+1+1+1+1) (w.heap.size+1+1+1) Ap l.length cp Al cl m M s w0) B Ac cn p g kind 77 #[.pointer (some ⟨w2.heap.size+1,0,none⟩),.pointer (some ⟨(w.heap.size+1+1),0,none⟩),.pointer (some ⟨w2.heap.size,0,none⟩),.pointer (some ⟨(w.heap.size+1+1+1+1+1),0,none⟩),.pointer (some ⟨(w.heap.size+1+1+1+1),0,none⟩),.pointer (some ⟨(w.heap.size+1+1+1),0,none⟩)] (.slice A5 c.length k5) c A cA lm (fun k=>k=w2.heap.size+1∨k=(w.heap.size+1+1)∨k=w2.heap.size∨k=(w.heap.size+1+1+1+1+1)∨k=(w.heap.size+1+1+1+1)∨k=(w.heap.size+1+1+1)) [] V2_10 w.heap.size hw0 hseer (HI.out.bel HB hw1) HRC (HCV.out _ (HWB.out.trans HB)) HM.out HL.out H3.out (by rw [HLM.out];omega) (by decide)
       clear hseer HRC hw0 hw1;refine hcall.mono ?_
       clear hcall;rintro e V3_6 hret;have HAG0:=aA0 hret.agr;obtain ⟨oA,ok,oB,ol,oC,om,rfl,hfin⟩:=aQz HLE.out hret HRX.out HPR.out H322.out;have HFIN:=aA0 hfin;clear hret hfin
       (try go_simp)
       have HBw:Hid (Bel w V3_6):=Agr.belE (HWB.out.trans HB) HAG0.out (fun k hk=>by have:=HSZ2.out;omega)
       have HB19:Hid (Blk V3_6 b19 #[.pointer (some ⟨B,0,none⟩),.slice Ac g.ports.length cn,.int .i64 kind,.int .u32 (aBw g.ports.length (fun _=>true):Nat),.func (.func 77) #[] #[.pointer (some ⟨w2.heap.size+1,0,none⟩),.pointer (some ⟨(w.heap.size+1+1),0,none⟩),.pointer (some ⟨w2.heap.size,0,none⟩),.pointer (some ⟨(w.heap.size+1+1+1+1+1),0,none⟩),.pointer (some ⟨(w.heap.size+1+1+1+1),0,none⟩),.pointer (some ⟨(w.heap.size+1+1+1),0,none⟩)]] 69):=HAG0.out.blk (HX19.out.keep HB) (fun e=>by have h3:=HB19N.out;omega)
       have hS6:Hid (∀ wF,Agr (fun k=>k<V2_10.heap.size/\k≠w2.heap.size/\k≠(w.heap.size+1+1+1+1)/\k≠(w.heap.size+1+1)/\k≠(w.heap.size+1+1+1)/\k≠b19) V3_6 wF->(fun w'=>w'.cell? ⟨b19,0,none⟩=some (.pointer (some ⟨B,0,none⟩))/\w'.cell? ⟨b19,1,none⟩=some (.slice Ac g.ports.length cn)/\w'.cell? ⟨b19,2,none⟩=some (.int .i64 kind)/\w'.cell? ⟨b19,3,none⟩=some (.int .u32 (aBw g.ports.length (fun _=>true):Nat))/\w'.cell? ⟨b19,4,none⟩=some (.func (.func 77) #[] #[.pointer (some ⟨w2.heap.size+1,0,none⟩),.pointer (some ⟨(w.heap.size+1+1),0,none⟩),.pointer (some ⟨w2.heap.size,0,none⟩),.pointer (some ⟨(w.heap.size+1+1+1+1+1),0,none⟩),.pointer (some ⟨(w.heap.size+1+1+1+1),0,none⟩),.pointer (some ⟨(w.heap.size+1+1+1),0,none⟩)])/\b19<w'.heap.size/\w'.cell? ⟨(w.heap.size+1+1),0,none⟩=some (.slice Ap l.length cp)/\w'.cell? ⟨(w.heap.size+1+1+1),0,none⟩=some (.slice Al m.length cl)/\(w.heap.size+1+1)<w'.heap.size/\(w.heap.size+1+1+1)<w'.heap.size) wF):=fun wF hag=>by
        have q:=HFIN.out wF (hag.mono fun k hk=>⟨hk.1,hk.2.1,hk.2.2.1,hk.2.2.2.1,hk.2.2.2.2.1⟩);have r:Blk wF b19 #[.pointer (some ⟨B,0,none⟩),.slice Ac g.ports.length cn,.int .i64 kind,.int .u32 (aBw g.ports.length (fun _=>true):Nat),.func (.func 77) #[] #[.pointer (some ⟨w2.heap.size+1,0,none⟩),.pointer (some ⟨(w.heap.size+1+1),0,none⟩),.pointer (some ⟨w2.heap.size,0,none⟩),.pointer (some ⟨(w.heap.size+1+1+1+1+1),0,none⟩),.pointer (some ⟨(w.heap.size+1+1+1+1),0,none⟩),.pointer (some ⟨(w.heap.size+1+1+1),0,none⟩)]] 69:=hag.blk HB19.out (fun h=>h.2.2.2.2.2 rfl);exact ⟨r.cell 0 rfl,r.cell 1 rfl,r.cell 2 rfl,r.cell 3 rfl,r.cell 4 rfl,r.lt,q.2.1.cell,q.2.2.1.cell,q.2.1.lt,q.2.2.1.lt⟩
       have hqs:V2_10.heap.size<=V3_6.heap.size:=HAG0.out.size;replace HZT:=aA0 (show Blk V3_6 bt #[.slice none 0 0,.slice none 0 0,.slice none 0 0,.int .i64 0,.int .i64 0,.int .i64 0,.int .i64 0,.int .u32 0] 38 from HAG0.out.blk HZT.out (fun e=>by have h3:=HI.out.dom bt e;have h4:=hbt4.out;omega))
       skip
       refine hK.out _ _ (fun _=>hS6.out _ (Agr.refl _ _)) ?_
       clear hK K
       (try simp only [Act.put,List.setIfInBounds_toArray,List.set_cons_zero,List.set_cons_succ])
       have hHeld:=hS6.out _ (Agr.refl _ _)
       (refine aA7.t (v:=?_) 7 43 rfl rfl (by kernel_rfl) (fun _ _ _ h=>h) hHeld (Or.inl ⟨by rfl,?_⟩) ?_;rotate_left 1;focus (intro w' hSw;(try dsimp only at hSw);go_simp;(try with_reducible rfl);done))
       (refine aA7.t (v:=?_) 8 51 rfl rfl (by kernel_rfl) (fun _ _ _ h=>h) hHeld (Or.inl ⟨by rfl,?_⟩) ?_;rotate_left 1;focus (intro w' hSw;(try dsimp only at hSw);go_simp;(try with_reducible rfl);done))
       (refine aA7.t (v:=?_) 9 52 rfl rfl (by kernel_rfl) (fun _ _ _ h=>h) hHeld (Or.inl ⟨by rfl,?_⟩) ?_;rotate_left 1;focus (intro w' hSw;(try dsimp only at hSw);go_simp;(try with_reducible rfl);done))
       clear hHeld
       (try simp only [Act.put,List.setIfInBounds_toArray,List.set_cons_zero,List.set_cons_succ])
       have z0:=HZT.out.cell 0 (v := .slice none 0 0) rfl;have zf0:=HZT.out.frozen 0;have z1:=HZT.out.cell 1 (v := .slice none 0 0) rfl;have zf1:=HZT.out.frozen 1;have z2:=HZT.out.cell 2 (v := .slice none 0 0) rfl;have zf2:=HZT.out.frozen 2;have z3:=HZT.out.cell 3 (v := .int .i64 0) rfl;have zf3:=HZT.out.frozen 3;have z4:=HZT.out.cell 4 (v := .int .i64 0) rfl;have zf4:=HZT.out.frozen 4;have z5:=HZT.out.cell 5 (v := .int .i64 0) rfl;have zf5:=HZT.out.frozen 5;have z6:=HZT.out.cell 6 (v := .int .i64 0) rfl;have zf6:=HZT.out.frozen 6;have z7:=HZT.out.cell 7 (v := .int .u32 0) rfl;have zf7:=HZT.out.frozen 7;have zl:=HZT.out.lt;have hE:bt<V2_10.heap.size/\bt≠w2.heap.size/\bt≠(w.heap.size+1+1+1+1)/\bt≠(w.heap.size+1+1)/\bt≠(w.heap.size+1+1+1)/\bt≠b19:=by have h1:=HBTQ.out;have h2:=hbt4.out;have h3:=HX19.out.lt;have h4:=HS4.out.lt;have h5:=HV4.out.lt;have h6:=HP4.out.lt;have h7:=HL4.out.lt;omega
       refine aA7.one (i:=11) (by kernel_rfl) rfl (fun K hK=>?_)
       go_simp
       refine hK.out _ _ (fun _=>hS6.out _ (Agr.trace hE)) ?_
       clear hK K
       (try simp only [Act.put,List.setIfInBounds_toArray,List.set_cons_zero,List.set_cons_succ])
       refine aA7.one (i:=12) (by kernel_rfl) rfl (fun K hK=>?_)
       go_simp
       refine hK.out _ _ (fun h=>absurd rfl h) ?_
       clear hK K;refine aA7.done (by kernel_rfl) ?_ _
       go_wp2_with fail
       go_meet
       have hq:=HFIN.out ((((((((V3_6.setCell ⟨bt,0,none⟩ (.slice oA (aD2 r).1.chosen.length ok)).setCell ⟨bt,1,none⟩ (.slice oB (aD2 r).1.enabled.length ol)).setCell ⟨bt,2,none⟩ (.slice oC (aD2 r).1.last.length om)).setCell ⟨bt,3,none⟩ (.int .i64 (aD2 r).1.count.steps)).setCell ⟨bt,4,none⟩ (.int .i64 (aD2 r).1.count.moves)).setCell ⟨bt,5,none⟩ (.int .i64 (aD2 r).1.count.rounds)).setCell ⟨bt,6,none⟩ (.int .i64 (aD2 r).1.count.begun)).setCell ⟨bt,7,none⟩ (.int .u32 ((aD2 r).1.count.pending:Int))) (Agr.trace (E:=fun k=>k<V2_10.heap.size/\k≠w2.heap.size/\k≠(w.heap.size+1+1+1+1)/\k≠(w.heap.size+1+1)/\k≠(w.heap.size+1+1+1)) ⟨hE.1,hE.2.1,hE.2.2.1,hE.2.2.2.1,hE.2.2.2.2.1⟩);exact ⟨oA,ok,oB,ol,oC,om,bt,rfl,rfl,Blk.trace HZT.out,hq.1,hq.2.2.2,HBw.out.trace (by have h2:=hbt4.out;have h3:=HWB.out.size;omega)⟩
     .
      (try go_simp)
      refine hK.out _ _ (fun _=>hcell.out _ (HB.alloc (.cells #[.slice none 0 0,.slice none 0 0,.slice none 0 0,.int .i64 0,.int .i64 0,.int .i64 0,.int .i64 0,.int .u32 0] 38))) ?_
      clear hK K
      (try simp only [Act.put,List.setIfInBounds_toArray,List.set_cons_zero,List.set_cons_succ])
      have HZT:=aA0 (Blk.new V0_4 #[.slice none 0 0,.slice none 0 0,.slice none 0 0,.int .i64 0,.int .i64 0,.int .i64 0,.int .i64 0,.int .u32 0] 38);have hb1:Bel V0_4 (V0_4.alloc (.cells #[.slice none 0 0,.slice none 0 0,.slice none 0 0,.int .i64 0,.int .i64 0,.int .i64 0,.int .i64 0,.int .u32 0] 38)):=(Bel.refl V0_4).alloc (.cells #[.slice none 0 0,.slice none 0 0,.slice none 0 0,.int .i64 0,.int .i64 0,.int .i64 0,.int .i64 0,.int .u32 0] 38);have hbt4:Hid (W4.heap.size<=V0_4.heap.size):=HB.size;replace HSl:=aA0 (HSl.out.alloc (.cells #[.slice none 0 0,.slice none 0 0,.slice none 0 0,.int .i64 0,.int .i64 0,.int .i64 0,.int .i64 0,.int .u32 0] 38));replace HB:=HB.trans hb1;clear hb1;generalize V0_4.alloc (.cells #[.slice none 0 0,.slice none 0 0,.slice none 0 0,.int .i64 0,.int .i64 0,.int .i64 0,.int .i64 0,.int .u32 0] 38)=V1_10 at *;obtain ⟨bt,hbtE⟩:∃ q,V0_4.heap.size=q:=⟨_,rfl⟩;replace hbt4:Hid (W4.heap.size<=bt):=hbtE ▸ hbt4.out;rw [hbtE] at HZT ⊢;clear hbtE;refine aA7.one (i:=5) (by kernel_rfl) rfl (fun K hK=>?_)
      go_simp
      go_at_call 78
      have hms:=HMK.out _ (HWB.out.trans HB);have hcc:=aL1 gS Ap cp l Al cl m _ HSl.out.lt (HSl.out.cell 0 rfl) (HSl.out.cell 1 rfl) hms.1 hms.2.1 (by omega) hmp
      rw [<- HLE.out] at hcc;refine hcc.mono ?_
      clear hms hcc;rintro e V2_5 ⟨A,cA,rfl,hO,hb⟩
      (try go_simp)
      have hbase:Hid (W4.heap.size<=V1_10.heap.size):=HB.size;have HRow:=aA0 hO;replace HB:=HB.trans hb;replace HZT:=aA0 (HZT.out.keep hb);clear hO hb HSl;refine hK.out _ _ (fun _=>hcell.out _ HB) ?_
      clear hK K
      (try simp only [Act.put,List.setIfInBounds_toArray,List.set_cons_zero,List.set_cons_succ])
      refine aA7.one (i:=6) (by kernel_rfl) rfl (fun K hK=>?_)
      have HBTQ:=aA0 HZT.out.lt
      go_simp
      go_at_call 38
      have HRC:Rb (fun k=>k=w2.heap.size+1∨k=(w.heap.size+1+1)∨k=w2.heap.size∨k=(w.heap.size+1+1+1+1+1)∨k=(w.heap.size+1+1+1+1)∨k=(w.heap.size+1+1+1)) (fun W=>aDb W B p g/\aKw W Ac g/\aCt W/\aAa W A lm.length lm) V2_5:=fun W hW=>have q:=(HRB.out.bel HB) W hW;⟨q.1,q.2.1,q.2.2,aDt (aD9 HRow.out hW (fun k hk e=>by have h1:=(aAf HRow.out k hk.symm).1;have h2:=hbase.out;have h3:=HI.out.dom k e;omega))⟩
      have hw0:=(HWB.out.trans HB).size;have hw1:=HWB.out.size;have hseer:=aHe (ba:=w2.heap.size+1) (bp:=(w.heap.size+1+1)) (bs:=w2.heap.size) (bn:=(w.heap.size+1+1+1+1+1)) (bv:=(w.heap.size+1+1+1+1)) (bl:=(w.heap.size+1+1+1)) (Ap:=Ap) (np:=l.length) (cp:=cp) (Al:=Al) (cl:=cl) (l:=m) w.heap.size p g H6.out (by omega) (by omega) (by omega) H322.out
      have hcall:=aMm (Inv:=fun M s w0=>RepI w.heap.size (fun t=>aAk p g t.last) (w2.heap.size+1) (w.heap.size+1+1) w2.heap.size (w.heap.size+1+1+1+1+1) (w.heap.size+1+1+1+1) (w.heap.size+1+1+1) Ap l.length cp Al cl m M s w0) B Ac cn p g kind 77 #[.pointer (some ⟨w2.heap.size+1,0,none⟩),.pointer (some ⟨(w.heap.size+1+1),0,none⟩),.pointer (some ⟨w2.heap.size,0,none⟩),.pointer (some ⟨(w.heap.size+1+1+1+1+1),0,none⟩),.pointer (some ⟨(w.heap.size+1+1+1+1),0,none⟩),.pointer (some ⟨(w.heap.size+1+1+1),0,none⟩)] (.slice A5 c.length k5) c A cA lm (fun k=>k=w2.heap.size+1∨k=(w.heap.size+1+1)∨k=w2.heap.size∨k=(w.heap.size+1+1+1+1+1)∨k=(w.heap.size+1+1+1+1)∨k=(w.heap.size+1+1+1)) [] V2_5 w.heap.size hw0 hseer (HI.out.bel HB hw1) HRC (HCV.out _ (HWB.out.trans HB)) HM.out HL.out H3.out (by rw [HLM.out];omega) (by decide)
      clear hseer HRC hw0 hw1;refine hcall.mono ?_
      clear hcall;rintro e V3_6 hret;have HAG0:=aA0 hret.agr;obtain ⟨oA,ok,oB,ol,oC,om,rfl,hfin⟩:=aQz HLE.out hret HRX.out HPR.out H322.out;have HFIN:=aA0 hfin;clear hret hfin
      (try go_simp)
      have HBw:Hid (Bel w V3_6):=Agr.belE (HWB.out.trans HB) HAG0.out (fun k hk=>by have:=HSZ2.out;omega)
      have HB19:Hid (Blk V3_6 b19 #[.pointer (some ⟨B,0,none⟩),.slice Ac g.ports.length cn,.int .i64 kind,.int .u32 (aBw g.ports.length (fun _=>true):Nat),.func (.func 77) #[] #[.pointer (some ⟨w2.heap.size+1,0,none⟩),.pointer (some ⟨(w.heap.size+1+1),0,none⟩),.pointer (some ⟨w2.heap.size,0,none⟩),.pointer (some ⟨(w.heap.size+1+1+1+1+1),0,none⟩),.pointer (some ⟨(w.heap.size+1+1+1+1),0,none⟩),.pointer (some ⟨(w.heap.size+1+1+1),0,none⟩)]] 69):=HAG0.out.blk (HX19.out.keep HB) (fun e=>by have h3:=HB19N.out;omega)
      have hS6:Hid (∀ wF,Agr (fun k=>k<V2_5.heap.size/\k≠w2.heap.size/\k≠(w.heap.size+1+1+1+1)/\k≠(w.heap.size+1+1)/\k≠(w.heap.size+1+1+1)/\k≠b19) V3_6 wF->(fun w'=>w'.cell? ⟨b19,0,none⟩=some (.pointer (some ⟨B,0,none⟩))/\w'.cell? ⟨b19,1,none⟩=some (.slice Ac g.ports.length cn)/\w'.cell? ⟨b19,2,none⟩=some (.int .i64 kind)/\w'.cell? ⟨b19,3,none⟩=some (.int .u32 (aBw g.ports.length (fun _=>true):Nat))/\w'.cell? ⟨b19,4,none⟩=some (.func (.func 77) #[] #[.pointer (some ⟨w2.heap.size+1,0,none⟩),.pointer (some ⟨(w.heap.size+1+1),0,none⟩),.pointer (some ⟨w2.heap.size,0,none⟩),.pointer (some ⟨(w.heap.size+1+1+1+1+1),0,none⟩),.pointer (some ⟨(w.heap.size+1+1+1+1),0,none⟩),.pointer (some ⟨(w.heap.size+1+1+1),0,none⟩)])/\b19<w'.heap.size/\w'.cell? ⟨(w.heap.size+1+1),0,none⟩=some (.slice Ap l.length cp)/\w'.cell? ⟨(w.heap.size+1+1+1),0,none⟩=some (.slice Al m.length cl)/\(w.heap.size+1+1)<w'.heap.size/\(w.heap.size+1+1+1)<w'.heap.size) wF):=fun wF hag=>by
       have q:=HFIN.out wF (hag.mono fun k hk=>⟨hk.1,hk.2.1,hk.2.2.1,hk.2.2.2.1,hk.2.2.2.2.1⟩);have r:Blk wF b19 #[.pointer (some ⟨B,0,none⟩),.slice Ac g.ports.length cn,.int .i64 kind,.int .u32 (aBw g.ports.length (fun _=>true):Nat),.func (.func 77) #[] #[.pointer (some ⟨w2.heap.size+1,0,none⟩),.pointer (some ⟨(w.heap.size+1+1),0,none⟩),.pointer (some ⟨w2.heap.size,0,none⟩),.pointer (some ⟨(w.heap.size+1+1+1+1+1),0,none⟩),.pointer (some ⟨(w.heap.size+1+1+1+1),0,none⟩),.pointer (some ⟨(w.heap.size+1+1+1),0,none⟩)]] 69:=hag.blk HB19.out (fun h=>h.2.2.2.2.2 rfl);exact ⟨r.cell 0 rfl,r.cell 1 rfl,r.cell 2 rfl,r.cell 3 rfl,r.cell 4 rfl,r.lt,q.2.1.cell,q.2.2.1.cell,q.2.1.lt,q.2.2.1.lt⟩
      have hqs:V2_5.heap.size<=V3_6.heap.size:=HAG0.out.size;replace HZT:=aA0 (show Blk V3_6 bt #[.slice none 0 0,.slice none 0 0,.slice none 0 0,.int .i64 0,.int .i64 0,.int .i64 0,.int .i64 0,.int .u32 0] 38 from HAG0.out.blk HZT.out (fun e=>by have h3:=HI.out.dom bt e;have h4:=hbt4.out;omega))
      skip
      refine hK.out _ _ (fun _=>hS6.out _ (Agr.refl _ _)) ?_
      clear hK K
      (try simp only [Act.put,List.setIfInBounds_toArray,List.set_cons_zero,List.set_cons_succ])
      have hHeld:=hS6.out _ (Agr.refl _ _)
      (refine aA7.t (v:=?_) 7 43 rfl rfl (by kernel_rfl) (fun _ _ _ h=>h) hHeld (Or.inl ⟨by rfl,?_⟩) ?_;rotate_left 1;focus (intro w' hSw;(try dsimp only at hSw);go_simp;(try with_reducible rfl);done))
      (refine aA7.t (v:=?_) 8 51 rfl rfl (by kernel_rfl) (fun _ _ _ h=>h) hHeld (Or.inl ⟨by rfl,?_⟩) ?_;rotate_left 1;focus (intro w' hSw;(try dsimp only at hSw);go_simp;(try with_reducible rfl);done))
      (refine aA7.t (v:=?_) 9 52 rfl rfl (by kernel_rfl) (fun _ _ _ h=>h) hHeld (Or.inl ⟨by rfl,?_⟩) ?_;rotate_left 1;focus (intro w' hSw;(try dsimp only at hSw);go_simp;(try with_reducible rfl);done))
      clear hHeld
      (try simp only [Act.put,List.setIfInBounds_toArray,List.set_cons_zero,List.set_cons_succ])
      have z0:=HZT.out.cell 0 (v := .slice none 0 0) rfl;have zf0:=HZT.out.frozen 0;have z1:=HZT.out.cell 1 (v := .slice none 0 0) rfl;have zf1:=HZT.out.frozen 1;have z2:=HZT.out.cell 2 (v := .slice none 0 0) rfl;have zf2:=HZT.out.frozen 2;have z3:=HZT.out.cell 3 (v := .int .i64 0) rfl;have zf3:=HZT.out.frozen 3;have z4:=HZT.out.cell 4 (v := .int .i64 0) rfl;have zf4:=HZT.out.frozen 4;have z5:=HZT.out.cell 5 (v := .int .i64 0) rfl;have zf5:=HZT.out.frozen 5;have z6:=HZT.out.cell 6 (v := .int .i64 0) rfl;have zf6:=HZT.out.frozen 6;have z7:=HZT.out.cell 7 (v := .int .u32 0) rfl;have zf7:=HZT.out.frozen 7;have zl:=HZT.out.lt;have hE:bt<V2_5.heap.size/\bt≠w2.heap.size/\bt≠(w.heap.size+1+1+1+1)/\bt≠(w.heap.size+1+1)/\bt≠(w.heap.size+1+1+1)/\bt≠b19:=by have h1:=HBTQ.out;have h2:=hbt4.out;have h3:=HX19.out.lt;have h4:=HS4.out.lt;have h5:=HV4.out.lt;have h6:=HP4.out.lt;have h7:=HL4.out.lt;omega
      refine aA7.one (i:=11) (by kernel_rfl) rfl (fun K hK=>?_)
      go_simp
      refine hK.out _ _ (fun _=>hS6.out _ (Agr.trace hE)) ?_
      clear hK K
      (try simp only [Act.put,List.setIfInBounds_toArray,List.set_cons_zero,List.set_cons_succ])
      refine aA7.one (i:=12) (by kernel_rfl) rfl (fun K hK=>?_)
      go_simp
      refine hK.out _ _ (fun h=>absurd rfl h) ?_
      clear hK K;refine aA7.done (by kernel_rfl) ?_ _
      go_wp2_with fail
      go_meet
      have hq:=HFIN.out ((((((((V3_6.setCell ⟨bt,0,none⟩ (.slice oA (aD2 r).1.chosen.length ok)).setCell ⟨bt,1,none⟩ (.slice oB (aD2 r).1.enabled.length ol)).setCell ⟨bt,2,none⟩ (.slice oC (aD2 r).1.last.length om)).setCell ⟨bt,3,none⟩ (.int .i64 (aD2 r).1.count.steps)).setCell ⟨bt,4,none⟩ (.int .i64 (aD2 r).1.count.moves)).setCell ⟨bt,5,none⟩ (.int .i64 (aD2 r).1.count.rounds)).setCell ⟨bt,6,none⟩ (.int .i64 (aD2 r).1.count.begun)).setCell ⟨bt,7,none⟩ (.int .u32 ((aD2 r).1.count.pending:Int))) (Agr.trace (E:=fun k=>k<V2_5.heap.size/\k≠w2.heap.size/\k≠(w.heap.size+1+1+1+1)/\k≠(w.heap.size+1+1)/\k≠(w.heap.size+1+1+1)) ⟨hE.1,hE.2.1,hE.2.2.1,hE.2.2.2.1,hE.2.2.2.2.1⟩);exact ⟨oA,ok,oB,ol,oC,om,bt,rfl,rfl,Blk.trace HZT.out,hq.1,hq.2.2.2,HBw.out.trace (by have h2:=hbt4.out;have h3:=HWB.out.size;omega)⟩
    .
     (try go_simp)
     replace HB:=((Bel.refl W4).alloc (.cells #[.slice none 0 0,.slice none 0 0,.slice none 0 0,.int .i64 0,.int .i64 0,.int .i64 0,.int .i64 0,.int .u32 0] 38)).drew;refine hK.out _ _ (fun _=>hcell.out _ HB) ?_
     clear hK K
     (try simp only [Act.put,List.setIfInBounds_toArray,List.set_cons_zero,List.set_cons_succ])
     have HZT:=aA0 ((Blk.new W4 #[.slice none 0 0,.slice none 0 0,.slice none 0 0,.int .i64 0,.int .i64 0,.int .i64 0,.int .i64 0,.int .u32 0] 38).drew);have hbt4:Hid (W4.heap.size<=W4.heap.size):=Nat.le_refl _;generalize (W4.alloc (.cells #[.slice none 0 0,.slice none 0 0,.slice none 0 0,.int .i64 0,.int .i64 0,.int .i64 0,.int .i64 0,.int .u32 0] 38)).drew=V0_10 at *;obtain ⟨bt,hbtE⟩:∃ q,W4.heap.size=q:=⟨_,rfl⟩;replace hbt4:Hid (W4.heap.size<=bt):=Nat.le_of_eq hbtE;rw [hbtE] at HZT ⊢;clear hbtE;refine aA7.one (i:=4) (by kernel_rfl) rfl (fun K hK=>?_)
     (try go_simp)
     refine hK.out _ _ (fun _=>hcell.out _ (HB.alloc (.cells #[.slice Ap l.length cp,.slice Al m.length cl] 31))) ?_
     clear hK K
     (try simp only [Act.put,List.setIfInBounds_toArray,List.set_cons_zero,List.set_cons_succ])
     have HSl:=aA0 (Blk.new V0_10 #[.slice Ap l.length cp,.slice Al m.length cl] 31);have hb1:Bel V0_10 (V0_10.alloc (.cells #[.slice Ap l.length cp,.slice Al m.length cl] 31)):=(Bel.refl V0_10).alloc (.cells #[.slice Ap l.length cp,.slice Al m.length cl] 31);replace HZT:=aA0 (HZT.out.alloc (.cells #[.slice Ap l.length cp,.slice Al m.length cl] 31));replace HB:=HB.trans hb1;clear hb1;generalize V0_10.alloc (.cells #[.slice Ap l.length cp,.slice Al m.length cl] 31)=V1_4 at *;generalize hgE:V0_10.heap.size=gS at HSl ⊢;clear hgE;refine aA7.one (i:=5) (by kernel_rfl) rfl (fun K hK=>?_)
     go_simp
     go_at_call 78
     have hms:=HMK.out _ (HWB.out.trans HB);have hcc:=aL1 gS Ap cp l Al cl m _ HSl.out.lt (HSl.out.cell 0 rfl) (HSl.out.cell 1 rfl) hms.1 hms.2.1 (by omega) hmp
     rw [<- HLE.out] at hcc;refine hcc.mono ?_
     clear hms hcc;rintro e V2_5 ⟨A,cA,rfl,hO,hb⟩
     (try go_simp)
     have hbase:Hid (W4.heap.size<=V1_4.heap.size):=HB.size;have HRow:=aA0 hO;replace HB:=HB.trans hb;replace HZT:=aA0 (HZT.out.keep hb);clear hO hb HSl;refine hK.out _ _ (fun _=>hcell.out _ HB) ?_
     clear hK K
     (try simp only [Act.put,List.setIfInBounds_toArray,List.set_cons_zero,List.set_cons_succ])
     refine aA7.one (i:=6) (by kernel_rfl) rfl (fun K hK=>?_)
     have HBTQ:=aA0 HZT.out.lt
     go_simp
     go_at_call 38
     have HRC:Rb (fun k=>k=w2.heap.size+1∨k=(w.heap.size+1+1)∨k=w2.heap.size∨k=(w.heap.size+1+1+1+1+1)∨k=(w.heap.size+1+1+1+1)∨k=(w.heap.size+1+1+1)) (fun W=>aDb W B p g/\aKw W Ac g/\aCt W/\aAa W A lm.length lm) V2_5:=fun W hW=>have q:=(HRB.out.bel HB) W hW;⟨q.1,q.2.1,q.2.2,aDt (aD9 HRow.out hW (fun k hk e=>by have h1:=(aAf HRow.out k hk.symm).1;have h2:=hbase.out;have h3:=HI.out.dom k e;omega))⟩
     have hw0:=(HWB.out.trans HB).size;have hw1:=HWB.out.size;have hseer:=aHe (ba:=w2.heap.size+1) (bp:=(w.heap.size+1+1)) (bs:=w2.heap.size) (bn:=(w.heap.size+1+1+1+1+1)) (bv:=(w.heap.size+1+1+1+1)) (bl:=(w.heap.size+1+1+1)) (Ap:=Ap) (np:=l.length) (cp:=cp) (Al:=Al) (cl:=cl) (l:=m) w.heap.size p g H6.out (by omega) (by omega) (by omega) H322.out
     have hcall:=aMm (Inv:=fun M s w0=>RepI w.heap.size (fun t=>aAk p g t.last) (w2.heap.size+1) (w.heap.size+1+1) w2.heap.size (w.heap.size+1+1+1+1+1) (w.heap.size+1+1+1+1) (w.heap.size+1+1+1) Ap l.length cp Al cl m M s w0) B Ac cn p g kind 77 #[.pointer (some ⟨w2.heap.size+1,0,none⟩),.pointer (some ⟨(w.heap.size+1+1),0,none⟩),.pointer (some ⟨w2.heap.size,0,none⟩),.pointer (some ⟨(w.heap.size+1+1+1+1+1),0,none⟩),.pointer (some ⟨(w.heap.size+1+1+1+1),0,none⟩),.pointer (some ⟨(w.heap.size+1+1+1),0,none⟩)] (.slice A5 c.length k5) c A cA lm (fun k=>k=w2.heap.size+1∨k=(w.heap.size+1+1)∨k=w2.heap.size∨k=(w.heap.size+1+1+1+1+1)∨k=(w.heap.size+1+1+1+1)∨k=(w.heap.size+1+1+1)) [] V2_5 w.heap.size hw0 hseer (HI.out.bel HB hw1) HRC (HCV.out _ (HWB.out.trans HB)) HM.out HL.out H3.out (by rw [HLM.out];omega) (by decide)
     clear hseer HRC hw0 hw1;refine hcall.mono ?_
     clear hcall;rintro e V3_6 hret;have HAG0:=aA0 hret.agr;obtain ⟨oA,ok,oB,ol,oC,om,rfl,hfin⟩:=aQz HLE.out hret HRX.out HPR.out H322.out;have HFIN:=aA0 hfin;clear hret hfin
     (try go_simp)
     have HBw:Hid (Bel w V3_6):=Agr.belE (HWB.out.trans HB) HAG0.out (fun k hk=>by have:=HSZ2.out;omega)
     have HB19:Hid (Blk V3_6 b19 #[.pointer (some ⟨B,0,none⟩),.slice Ac g.ports.length cn,.int .i64 kind,.int .u32 (aBw g.ports.length (fun _=>true):Nat),.func (.func 77) #[] #[.pointer (some ⟨w2.heap.size+1,0,none⟩),.pointer (some ⟨(w.heap.size+1+1),0,none⟩),.pointer (some ⟨w2.heap.size,0,none⟩),.pointer (some ⟨(w.heap.size+1+1+1+1+1),0,none⟩),.pointer (some ⟨(w.heap.size+1+1+1+1),0,none⟩),.pointer (some ⟨(w.heap.size+1+1+1),0,none⟩)]] 69):=HAG0.out.blk (HX19.out.keep HB) (fun e=>by have h3:=HB19N.out;omega)
     have hS6:Hid (∀ wF,Agr (fun k=>k<V2_5.heap.size/\k≠w2.heap.size/\k≠(w.heap.size+1+1+1+1)/\k≠(w.heap.size+1+1)/\k≠(w.heap.size+1+1+1)/\k≠b19) V3_6 wF->(fun w'=>w'.cell? ⟨b19,0,none⟩=some (.pointer (some ⟨B,0,none⟩))/\w'.cell? ⟨b19,1,none⟩=some (.slice Ac g.ports.length cn)/\w'.cell? ⟨b19,2,none⟩=some (.int .i64 kind)/\w'.cell? ⟨b19,3,none⟩=some (.int .u32 (aBw g.ports.length (fun _=>true):Nat))/\w'.cell? ⟨b19,4,none⟩=some (.func (.func 77) #[] #[.pointer (some ⟨w2.heap.size+1,0,none⟩),.pointer (some ⟨(w.heap.size+1+1),0,none⟩),.pointer (some ⟨w2.heap.size,0,none⟩),.pointer (some ⟨(w.heap.size+1+1+1+1+1),0,none⟩),.pointer (some ⟨(w.heap.size+1+1+1+1),0,none⟩),.pointer (some ⟨(w.heap.size+1+1+1),0,none⟩)])/\b19<w'.heap.size/\w'.cell? ⟨(w.heap.size+1+1),0,none⟩=some (.slice Ap l.length cp)/\w'.cell? ⟨(w.heap.size+1+1+1),0,none⟩=some (.slice Al m.length cl)/\(w.heap.size+1+1)<w'.heap.size/\(w.heap.size+1+1+1)<w'.heap.size) wF):=fun wF hag=>by
      have q:=HFIN.out wF (hag.mono fun k hk=>⟨hk.1,hk.2.1,hk.2.2.1,hk.2.2.2.1,hk.2.2.2.2.1⟩);have r:Blk wF b19 #[.pointer (some ⟨B,0,none⟩),.slice Ac g.ports.length cn,.int .i64 kind,.int .u32 (aBw g.ports.length (fun _=>true):Nat),.func (.func 77) #[] #[.pointer (some ⟨w2.heap.size+1,0,none⟩),.pointer (some ⟨(w.heap.size+1+1),0,none⟩),.pointer (some ⟨w2.heap.size,0,none⟩),.pointer (some ⟨(w.heap.size+1+1+1+1+1),0,none⟩),.pointer (some ⟨(w.heap.size+1+1+1+1),0,none⟩),.pointer (some ⟨(w.heap.size+1+1+1),0,none⟩)]] 69:=hag.blk HB19.out (fun h=>h.2.2.2.2.2 rfl);exact ⟨r.cell 0 rfl,r.cell 1 rfl,r.cell 2 rfl,r.cell 3 rfl,r.cell 4 rfl,r.lt,q.2.1.cell,q.2.2.1.cell,q.2.1.lt,q.2.2.1.lt⟩
     have hqs:V2_5.heap.size<=V3_6.heap.size:=HAG0.out.size;replace HZT:=aA0 (show Blk V3_6 bt #[.slice none 0 0,.slice none 0 0,.slice none 0 0,.int .i64 0,.int .i64 0,.int .i64 0,.int .i64 0,.int .u32 0] 38 from HAG0.out.blk HZT.out (fun e=>by have h3:=HI.out.dom bt e;have h4:=hbt4.out;omega))
     skip
     refine hK.out _ _ (fun _=>hS6.out _ (Agr.refl _ _)) ?_
     clear hK K
     (try simp only [Act.put,List.setIfInBounds_toArray,List.set_cons_zero,List.set_cons_succ])
     have hHeld:=hS6.out _ (Agr.refl _ _)
     (refine aA7.t (v:=?_) 7 43 rfl rfl (by kernel_rfl) (fun _ _ _ h=>h) hHeld (Or.inl ⟨by rfl,?_⟩) ?_;rotate_left 1;focus (intro w' hSw;(try dsimp only at hSw);go_simp;(try with_reducible rfl);done))
     (refine aA7.t (v:=?_) 8 51 rfl rfl (by kernel_rfl) (fun _ _ _ h=>h) hHeld (Or.inl ⟨by rfl,?_⟩) ?_;rotate_left 1;focus (intro w' hSw;(try dsimp only at hSw);go_simp;(try with_reducible rfl);done))
     (refine aA7.t (v:=?_) 9 52 rfl rfl (by kernel_rfl) (fun _ _ _ h=>h) hHeld (Or.inl ⟨by rfl,?_⟩) ?_;rotate_left 1;focus (intro w' hSw;(try dsimp only at hSw);go_simp;(try with_reducible rfl);done))
     clear hHeld
     (try simp only [Act.put,List.setIfInBounds_toArray,List.set_cons_zero,List.set_cons_succ])
     have z0:=HZT.out.cell 0 (v := .slice none 0 0) rfl;have zf0:=HZT.out.frozen 0;have z1:=HZT.out.cell 1 (v := .slice none 0 0) rfl;have zf1:=HZT.out.frozen 1;have z2:=HZT.out.cell 2 (v := .slice none 0 0) rfl;have zf2:=HZT.out.frozen 2;have z3:=HZT.out.cell 3 (v := .int .i64 0) rfl;have zf3:=HZT.out.frozen 3;have z4:=HZT.out.cell 4 (v := .int .i64 0) rfl;have zf4:=HZT.out.frozen 4;have z5:=HZT.out.cell 5 (v := .int .i64 0) rfl;have zf5:=HZT.out.frozen 5;have z6:=HZT.out.cell 6 (v := .int .i64 0) rfl;have zf6:=HZT.out.frozen 6;have z7:=HZT.out.cell 7 (v := .int .u32 0) rfl;have zf7:=HZT.out.frozen 7;have zl:=HZT.out.lt;have hE:bt<V2_5.heap.size/\bt≠w2.heap.size/\bt≠(w.heap.size+1+1+1+1)/\bt≠(w.heap.size+1+1)/\bt≠(w.heap.size+1+1+1)/\bt≠b19:=by have h1:=HBTQ.out;have h2:=hbt4.out;have h3:=HX19.out.lt;have h4:=HS4.out.lt;have h5:=HV4.out.lt;have h6:=HP4.out.lt;have h7:=HL4.out.lt;omega
     refine aA7.one (i:=11) (by kernel_rfl) rfl (fun K hK=>?_)
     go_simp
     refine hK.out _ _ (fun _=>hS6.out _ (Agr.trace hE)) ?_
     clear hK K
     (try simp only [Act.put,List.setIfInBounds_toArray,List.set_cons_zero,List.set_cons_succ])
     refine aA7.one (i:=12) (by kernel_rfl) rfl (fun K hK=>?_)
     go_simp
     refine hK.out _ _ (fun h=>absurd rfl h) ?_
     clear hK K;refine aA7.done (by kernel_rfl) ?_ _
     go_wp2_with fail
     go_meet
     have hq:=HFIN.out ((((((((V3_6.setCell ⟨bt,0,none⟩ (.slice oA (aD2 r).1.chosen.length ok)).setCell ⟨bt,1,none⟩ (.slice oB (aD2 r).1.enabled.length ol)).setCell ⟨bt,2,none⟩ (.slice oC (aD2 r).1.last.length om)).setCell ⟨bt,3,none⟩ (.int .i64 (aD2 r).1.count.steps)).setCell ⟨bt,4,none⟩ (.int .i64 (aD2 r).1.count.moves)).setCell ⟨bt,5,none⟩ (.int .i64 (aD2 r).1.count.rounds)).setCell ⟨bt,6,none⟩ (.int .i64 (aD2 r).1.count.begun)).setCell ⟨bt,7,none⟩ (.int .u32 ((aD2 r).1.count.pending:Int))) (Agr.trace (E:=fun k=>k<V2_5.heap.size/\k≠w2.heap.size/\k≠(w.heap.size+1+1+1+1)/\k≠(w.heap.size+1+1)/\k≠(w.heap.size+1+1+1)) ⟨hE.1,hE.2.1,hE.2.2.1,hE.2.2.2.1,hE.2.2.2.2.1⟩);exact ⟨oA,ok,oB,ol,oC,om,bt,rfl,rfl,Blk.trace HZT.out,hq.1,hq.2.2.2,HBw.out.trace (by have h2:=hbt4.out;have h3:=HWB.out.size;omega)⟩
   obtain ⟨oA,ok,oB,ol,oC,om,bt,rfl,rfl,HBt,HRF,HCo,HBw⟩:=hcut;obtain ⟨sv,sn,hs1,hs2,hs3,hs4⟩:=HRF.out;cases r with
   | none =>
    rw [show (aD2 (none:Option Trc)).2=11 from rfl] at HER ⊢
    have HLB:Hid (aPa p g kind c l m=false):=aNm (by rw [HER.out];decide)
    obtain ⟨r0,rf,rz⟩:=aA4 hs2;clear hs1 hs3 hs4
    go_wp2_with fail
    have y0:(wc.setCell ⟨(w.heap.size+1+1+1+1),0,none⟩ (.int .u32 0)).cell? ⟨(w.heap.size+1+1+1+1),0,none⟩=some (.int .u32 0):=(Boxed.set _ (show Boxed wc _ _ _ from hs2)).cell
    refine bodyPost_ret (v := .tuple #[.bool false,.int .u32 0,.int .i64 11]) (by simp [results,Tryz.results52,go_sem,y0];try go_simp) rfl ?_
    rw [HLB.out,HER.out];exact ⟨0,rfl,fun h=>absurd h (by decide),by decide,HBw.setCell (by show _<=(w.heap.size+1+1+1+1);omega) _⟩
   | some t =>
    rw [show (aD2 (some t)).2=0 from rfl] at HER ⊢
    rw [show (aD2 (some t)).1=t from rfl] at HBt HCo
    obtain ⟨a,b,hP⟩:=aL9 HM.out H32.out H322.out (by rw [<- HLE.out];exact HPR.out)
    have h4:=hs4 t rfl a b hP;obtain ⟨sA,sk,rfl,_,_,_⟩:=(id h4.1:aAw _ _ _);have HCa:=aA0 (fun W (k:Bel wc W)=>h4.1.keep k);have HCt:=aA0 (fun W (k:Bel wc W)=>HCo.out.keep k);have HSN:=aA0 h4.2;have HS3:=aA0 hs3;have HRN:=aA0 hP.round;have HLA:=aA0 (aDh hP.okA.mem HL.out)
    have HLEN:Hid (a.last.length=t.last.length):=by
     show a.last.length=t.last.length
     rw [<- hP.last,aDg hP.okA.mem,aDg hP.okB.mem]
    have h24:a.last.length<=24:=by rw [aDg hP.okA.mem];exact (aAp (aB8 hP.okA.mem).1).2.1.le
    have HLQ:=aA0 (aJq (p:=p) (g:=g) (kind:=kind) (c:=c) (l:=l) (m:=m) HER.out hP.round);have HBLT:=aA0 hP.last;have HS1:=aA0 hs1;have HS2:=aA0 hs2;have hcS:Hid (∀ w',Bel wc w'->(fun w'=>w'.cell? ⟨w2.heap.size,0,none⟩=some (.slice sA a.last.length sk)/\w2.heap.size<w'.heap.size/\w'.cell? ⟨bt,2,none⟩=some (.slice oC t.last.length om)/\bt<w'.heap.size/\w'.cell? ⟨(w.heap.size+1+1+1+1),0,none⟩=some (.int .u32 (sn:Int))/\(w.heap.size+1+1+1+1)<w'.heap.size/\w'.frozen? ⟨(w.heap.size+1+1+1+1),0,none⟩=false) w'):=fun w' k=>have q:=aAh HS1.out k;have u:=aAh HS2.out k;have x:=HBt.out.keep k;⟨q.cell,q.lt,x.cell 2 rfl,x.lt,u.cell,u.lt,(aA4 u).2.1⟩
    have hcS2:Hid (∀ w',Bel wc w'->(fun w'=>w'.cell? ⟨w2.heap.size,0,none⟩=some (.slice sA a.last.length sk)/\w2.heap.size<w'.heap.size/\w'.cell? ⟨bt,2,none⟩=some (.slice oC t.last.length om)/\bt<w'.heap.size/\w'.cell? ⟨(w.heap.size+1+1+1+1),0,none⟩=some (.int .u32 (sn:Int))/\(w.heap.size+1+1+1+1)<w'.heap.size/\w'.frozen? ⟨(w.heap.size+1+1+1+1),0,none⟩=false) (w'.setCell ⟨(w.heap.size+1+1+1+1),0,none⟩ (.int .u32 (sn:Int)))):=fun w' k=>by
     have u:=aAh HS2.out k;have hw:Agr (fun k=>k=(w.heap.size+1+1+1+1)) w' (w'.setCell ⟨(w.heap.size+1+1+1+1),0,none⟩ (.int .u32 (sn:Int))):=Agr.setCell _ _ _ rfl;have u2:Boxed (w'.setCell ⟨(w.heap.size+1+1+1+1),0,none⟩ (.int .u32 (sn:Int))) (w.heap.size+1+1+1+1) 34 (.int .u32 (sn:Int)):=Boxed.set _ u;have q:=hw.boxed (aAh HS1.out k) (by have:=HSZ2.out;omega)
     have x:Blk (w'.setCell ⟨(w.heap.size+1+1+1+1),0,none⟩ (.int .u32 (sn:Int))) bt _ 38:=hw.blk (HBt.out.keep k) (fun e=>by
      have h1:=HBt.out;rw [e] at h1;have h2:=h1.symm.trans HS2.out
      simp at h2)
     exact ⟨q.cell,q.lt,x.cell 2 rfl,x.lt,u2.cell,u2.lt,(aA4 u2).2.1⟩
    clear hs1 hs2 hs3 hs4 h4 hP
    by_cases hab:a.last=t.last
    .have HD:Hid (aL2 a.last t.last=0):=(aN3 HLEN.out h24).2 hab
     have HLA2:Hid (aPa p g kind c l m=true):=by rw [HLQ.out,HBLT.out];exact decide_eq_true hab
     clear hab
     go_upto_region 13 with fail
     refine aA7.start (fun w'=>w'.cell? ⟨w2.heap.size,0,none⟩=some (.slice sA a.last.length sk)/\w2.heap.size<w'.heap.size/\w'.cell? ⟨bt,2,none⟩=some (.slice oC t.last.length om)/\bt<w'.heap.size/\w'.cell? ⟨(w.heap.size+1+1+1+1),0,none⟩=some (.int .u32 (sn:Int))/\(w.heap.size+1+1+1+1)<w'.heap.size/\w'.frozen? ⟨(w.heap.size+1+1+1+1),0,none⟩=false) 8 (by kernel_rfl) ?_
     have HB:=(Bel.refl wc).drew;have hHeld:=hcS.out _ HB
     (refine aA7.t (v:=?_) 0 56 rfl rfl (by kernel_rfl) (fun _ _ _ h=>h) hHeld (Or.inl ⟨by rfl,?_⟩) ?_;rotate_left 1;focus (intro w' hSw;(try dsimp only at hSw);go_simp;(try with_reducible rfl);done))
     (refine aA7.t (v:=?_) 1 57 rfl rfl (by kernel_rfl) (fun _ _ _ h=>h) hHeld (Or.inl ⟨by rfl,?_⟩) ?_;rotate_left 1;focus (intro w' hSw;(try dsimp only at hSw);go_simp;(try with_reducible rfl);done))
     (refine aA7.t (v:=?_) 2 58 rfl rfl (by kernel_rfl) (fun _ _ _ h=>h) hHeld (Or.inl ⟨by rfl,?_⟩) ?_;rotate_left 1;focus (intro w' hSw;(try dsimp only at hSw);go_simp;(try with_reducible rfl);done))
     (refine aA7.t (v:=?_) 5 61 rfl rfl (by kernel_rfl) (fun _ _ _ h=>h) hHeld (Or.inl ⟨by rfl,?_⟩) ?_;rotate_left 1;focus (intro w' hSw;(try dsimp only at hSw);go_simp;(try with_reducible rfl);done))
     refine aA7.one (i:=3) (by kernel_rfl) rfl (fun K hK=>?_)
     go_simp
     go_at_call 79
     refine (aP4 _ _ a.last t.last _ (HCa.out _ HB) (HCt.out _ HB) HLEN.out (fun r hr=>by have:=(aBb HLA.out).2 r hr;omega)).mono ?_
     rintro e w9 ⟨rfl,hb⟩;rw [HD.out];replace HB:=HB.trans hb;clear hb
     (try go_simp)
     refine hK.out _ _ (fun _=>hcS.out _ HB) ?_
     clear hK K hHeld;have hHeld:=hcS.out _ HB
     (try simp only [Act.put,List.setIfInBounds_toArray,List.set_cons_zero,List.set_cons_succ])
     (refine aA7.t (v:=?_) 4 60 rfl rfl (by kernel_rfl) (fun _ _ _ h=>h) hHeld (Or.inl ⟨by rfl,?_⟩) ?_;rotate_left 1;focus (intro w' hSw;(try dsimp only at hSw);go_simp;(try with_reducible rfl);done))
     refine aA7.one (i:=6) (by kernel_rfl) rfl (fun K hK=>?_)
     go_simp
     refine hK.out _ _ (fun _=>hHeld) ?_
     clear hK K
     (try simp only [Act.put,List.setIfInBounds_toArray,List.set_cons_zero,List.set_cons_succ])
     obtain ⟨_,_,_,_,s5,s6,s7⟩:=(id hHeld:(fun w'=>w'.cell? ⟨w2.heap.size,0,none⟩=some (.slice sA a.last.length sk)/\w2.heap.size<w'.heap.size/\w'.cell? ⟨bt,2,none⟩=some (.slice oC t.last.length om)/\bt<w'.heap.size/\w'.cell? ⟨(w.heap.size+1+1+1+1),0,none⟩=some (.int .u32 (sn:Int))/\(w.heap.size+1+1+1+1)<w'.heap.size/\w'.frozen? ⟨(w.heap.size+1+1+1+1),0,none⟩=false) w9);refine aA7.one (i:=7) (by kernel_rfl) rfl (fun K hK=>?_)
     go_simp
     refine hK.out _ _ (fun _=>hcS2.out _ HB) ?_
     clear hK K hHeld
     (try simp only [Act.put,List.setIfInBounds_toArray,List.set_cons_zero,List.set_cons_succ])
     refine aA7.one (i:=8) (by kernel_rfl) rfl (fun K hK=>?_)
     go_simp
     refine hK.out _ _ (fun h=>absurd rfl h) ?_
     clear hK K;refine aA7.done (by kernel_rfl) ?_ _
     go_wp2_with fail
     have y0:=(hcS2.out _ HB).2.2.2.2.1;refine bodyPost_ret (v := .tuple #[.bool true,.int .u32 (sn:Int),.int .i64 0]) (by simp [results,Tryz.results52,go_sem,y0];try go_simp) rfl ?_
     rw [HLA2.out,HER.out]
     exact ⟨sn,rfl,fun _ a' b' h'=>by
      rw [HRN.out] at h';obtain ⟨rfl,rfl⟩:a=a'/\b=b':=by simpa using h'
      exact HSN.out,HS3.out,(HBw.trans HB).setCell (by show _<=(w.heap.size+1+1+1+1);have:=HWB.out.size;omega) _⟩
    .obtain ⟨D,hD⟩:∃ D,aL2 a.last t.last=D:=⟨_,rfl⟩
     have hdz:D≠0:=fun e=>hab ((aN3 HLEN.out h24).1 (hD.trans e));have HD:=aA0 hD;have hdb:(D==0)=false:=by simpa using hdz
     have hdI:((D:Int)==0)=false:=by simpa using hdz
     have HLA2:Hid (aPa p g kind c l m=false):=by rw [HLQ.out,HBLT.out];exact decide_eq_false hab
     clear hab hD hdz
     go_upto_region 13 with fail
     refine aA7.start (fun w'=>w'.cell? ⟨w2.heap.size,0,none⟩=some (.slice sA a.last.length sk)/\w2.heap.size<w'.heap.size/\w'.cell? ⟨bt,2,none⟩=some (.slice oC t.last.length om)/\bt<w'.heap.size/\w'.cell? ⟨(w.heap.size+1+1+1+1),0,none⟩=some (.int .u32 (sn:Int))/\(w.heap.size+1+1+1+1)<w'.heap.size/\w'.frozen? ⟨(w.heap.size+1+1+1+1),0,none⟩=false) 8 (by kernel_rfl) ?_
     have HB:=(Bel.refl wc).drew;have hHeld:=hcS.out _ HB
     (refine aA7.t (v:=?_) 0 56 rfl rfl (by kernel_rfl) (fun _ _ _ h=>h) hHeld (Or.inl ⟨by rfl,?_⟩) ?_;rotate_left 1;focus (intro w' hSw;(try dsimp only at hSw);go_simp;(try with_reducible rfl);done))
     (refine aA7.t (v:=?_) 1 57 rfl rfl (by kernel_rfl) (fun _ _ _ h=>h) hHeld (Or.inl ⟨by rfl,?_⟩) ?_;rotate_left 1;focus (intro w' hSw;(try dsimp only at hSw);go_simp;(try with_reducible rfl);done))
     (refine aA7.t (v:=?_) 2 58 rfl rfl (by kernel_rfl) (fun _ _ _ h=>h) hHeld (Or.inl ⟨by rfl,?_⟩) ?_;rotate_left 1;focus (intro w' hSw;(try dsimp only at hSw);go_simp;(try with_reducible rfl);done))
     (refine aA7.t (v:=?_) 5 61 rfl rfl (by kernel_rfl) (fun _ _ _ h=>h) hHeld (Or.inl ⟨by rfl,?_⟩) ?_;rotate_left 1;focus (intro w' hSw;(try dsimp only at hSw);go_simp;(try with_reducible rfl);done))
     refine aA7.one (i:=3) (by kernel_rfl) rfl (fun K hK=>?_)
     go_simp
     go_at_call 79
     refine (aP4 _ _ a.last t.last _ (HCa.out _ HB) (HCt.out _ HB) HLEN.out (fun r hr=>by have:=(aBb HLA.out).2 r hr;omega)).mono ?_
     rintro e w9 ⟨rfl,hb⟩;rw [HD.out];replace HB:=HB.trans hb;clear hb
     (try go_simp)
     refine hK.out _ _ (fun _=>hcS.out _ HB) ?_
     clear hK K hHeld;have hHeld:=hcS.out _ HB
     (try simp only [Act.put,List.setIfInBounds_toArray,List.set_cons_zero,List.set_cons_succ])
     (refine aA7.t (v:=?_) 4 60 rfl rfl (by kernel_rfl) (fun _ _ _ h=>h) hHeld (Or.inl ⟨by rfl,?_⟩) ?_;rotate_left 1;focus (intro w' hSw;(try dsimp only at hSw);go_simp;(try with_reducible rfl);done))
     refine aA7.one (i:=6) (by kernel_rfl) rfl (fun K hK=>?_)
     go_simp
     refine hK.out _ _ (fun _=>hHeld) ?_
     clear hK K
     (try simp only [Act.put,List.setIfInBounds_toArray,List.set_cons_zero,List.set_cons_succ])
     obtain ⟨_,_,_,_,s5,s6,s7⟩:=(id hHeld:(fun w'=>w'.cell? ⟨w2.heap.size,0,none⟩=some (.slice sA a.last.length sk)/\w2.heap.size<w'.heap.size/\w'.cell? ⟨bt,2,none⟩=some (.slice oC t.last.length om)/\bt<w'.heap.size/\w'.cell? ⟨(w.heap.size+1+1+1+1),0,none⟩=some (.int .u32 (sn:Int))/\(w.heap.size+1+1+1+1)<w'.heap.size/\w'.frozen? ⟨(w.heap.size+1+1+1+1),0,none⟩=false) w9);refine aA7.one (i:=7) (by kernel_rfl) rfl (fun K hK=>?_)
     go_simp
     refine hK.out _ _ (fun _=>hcS2.out _ HB) ?_
     clear hK K hHeld
     (try simp only [Act.put,List.setIfInBounds_toArray,List.set_cons_zero,List.set_cons_succ])
     refine aA7.one (i:=8) (by kernel_rfl) rfl (fun K hK=>?_)
     go_simp
     refine hK.out _ _ (fun h=>absurd rfl h) ?_
     clear hK K;refine aA7.done (by kernel_rfl) ?_ _
     go_wp2_with fail
     have y0:=(hcS2.out _ HB).2.2.2.2.1;refine bodyPost_ret (v := .tuple #[.bool false,.int .u32 (sn:Int),.int .i64 0]) (by simp [results,Tryz.results52,go_sem,y0];try go_simp) rfl ?_
     rw [HLA2.out,HER.out]
     exact ⟨sn,rfl,fun _ a' b' h'=>by
      rw [HRN.out] at h';obtain ⟨rfl,rfl⟩:a=a'/\b=b':=by simpa using h'
      exact HSN.out,HS3.out,(HBw.trans HB).setCell (by show _<=(w.heap.size+1+1+1+1);have:=HWB.out.size;omega) _⟩
 .rw [if_pos hb0] at HF
  have hbb:(aI0 p g kind c ((l.length:Int)+(m.length:Int)) != 0)=true:=by simpa using hb0
  have HLB:Hid (aPa p g kind c l m=false):=aNm (by rw [HF.out];exact hb0)
  obtain ⟨bb,hgb⟩:∃ bb,aI0 p g kind c ((l.length:Int)+(m.length:Int))=bb:=⟨_,rfl⟩;have HB0:=aA0 hgb;rw [hgb] at HF hbb hb0;have HB1:=aA0 hb0;clear hgb hb0;go_enter func52,ntmps52
  go_wp2_with (go_at_call 35;refine (aF3 _ p _ g _ c kind ((l.length:Int)+(m.length:Int)) _ (HPV.out _ (aA1 HW)) (HGV.out _ (aA1 HW)) (HCV.out _ (aA1 HW)) HL.out HGL.out HCL.out).mono ?_;rintro e w2 ⟨rfl,hb⟩;rw [HB0.out];replace HP4:=aA0 (aAh HP4.out hb);replace HL4:=aA0 (aAh HL4.out hb);replace HV4:=aA0 (aAh HV4.out hb);replace HN4:=aA0 (aAh HN4.out hb);replace HW:=HW.trans hb;clear hb;(try clear p0 p1 p2 g0 g1 gsz);obtain ⟨p0,p1,p2,g0,g1,gsz⟩:=aAd HW;(try clear e0 ef ez);obtain ⟨e0,ef,ez⟩:=aA4 HP4.out;(try clear h0 hf hz);obtain ⟨h0,hf,hz⟩:=aA4 HL4.out;(try clear r0 rf rz);obtain ⟨r0,rf,rz⟩:=aA4 HV4.out;(try clear j0 jf jz);obtain ⟨j0,jf,jz⟩:=aA4 HN4.out)
  have y0:(w2.setCell ⟨(w.heap.size+1+1+1+1),0,none⟩ (.int .u32 0)).cell? ⟨(w.heap.size+1+1+1+1),0,none⟩=some (.int .u32 0):=(Boxed.set _ (show Boxed w2 _ _ _ from HV4.out)).cell
  refine bodyPost_ret (v := .tuple #[.bool false,.int .u32 0,.int .i64 bb]) (by simp [results,Tryz.results52,go_sem,y0];try go_simp) rfl ?_
  rw [HLB.out,HF.out];exact ⟨0,rfl,fun h=>absurd h HB1.out,by decide,(aA1 HW).setCell (by show _<=(w.heap.size+1+1+1+1);omega) _⟩
end Go.Proofs.YtdcjnhoabbdanaaGreatDoor

