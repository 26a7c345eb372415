/- Merged. -/
import Derived.Test.YtdcjnhoabbdanaaGreatDoorZ21
set_option linter.unusedSimpArgs false
set_option linter.unnecessarySimpa false
set_option linter.unusedVariables false
set_option maxRecDepth 100000
set_option maxHeartbeats 4000000
open Go.Proofs.Tryz

namespace Go.Proofs.YtdcjnhoabbdanaaGreatDoor
open Go.RowKit
def aSi (w:World) (K:Nat) (p:Prg) (g:Graph) (c:aA7) (v:Nat) (A:Option Addr) (ce:Nat) (es:List Term):Prop :=
 ∃ B AC kc,Blk w K #[.pointer (some ⟨B,0,none⟩),.slice AC c.length kc,.int .i64 v,.slice A es.length ce] 186/\aHr w B p g/\aAy w (.slice AC c.length kc) c/\aB0 w A es.length es
theorem aSi.keep {w w':World} {K:Nat} {p:Prg} {g:Graph} {c:aA7} {v:Nat} {A:Option Addr} {ce:Nat} {es:List Term} (h:aSi w K p g c v A ce es) (k:Bel w w'):aSi w' K p g c v A ce es:=by
 obtain ⟨B,AC,kc,h1,h2,h3,h4⟩:=h;exact ⟨B,AC,kc,h1.keep k,h2.keep k,h3.keep k,aB0.keep h4 k⟩
theorem aX9 (K:Nat) (p:Prg) (g:Graph) (c:aA7) (v:Nat) (A:Option Addr) (ce:Nat) (es:List Term) (port:Int) (t:Term) (b:Bool) (w:World) (hW:aSi w K p g c v A ce es) (hs:SOK p g c v) (har:aAg t.op=0) (ha:aFx t p.vars.length=true) (hb:aCw t.op=true->b=true) (hp:aG6 g v b port) :
  Calls prog 163 #[.pointer (some ⟨K,0,none⟩),.agg #[.int .i64 t.op,.int .i64 t.arg],.int .i64 port] w fun e w'=>e = .returned (.int .i64 (aGg g c v port t))/\Bel w w':=by
 have hr:=(aB6 t.op).1 har;obtain ⟨B,AC,kc,hK,hS,hC,_⟩:=hW;have HSC:=aA0 (fun w' (k:Bel w w')=>hS.keep k);obtain ⟨A1,k1,A2,k2,A3,k3,A4,k4,gb,hB,_,hGV,_⟩:=hS;obtain ⟨A',k',A2',k2',eG,_,_,_,hP,_,_⟩:=hGV;obtain ⟨⟨rfl,rfl⟩,rfl,rfl⟩:(A3=A'/\k3=k')/\A4=A2'/\k4=k2':=by simpa using eG
 obtain ⟨AC',kc',eC,hC,_,_⟩:=hC;obtain ⟨rfl,rfl⟩:AC=AC'/\kc=kc':=by simpa using eC
 have y0:=hK.cell 0 (v := .pointer (some ⟨B,0,none⟩)) rfl;have y1:=hK.cell 1 (v := .slice AC c.length kc) rfl;have y2:=hK.cell 2 (v := .int .i64 v) rfl;have yl:=hK.lt;have z4:=hB.cell 4 (v := .slice A4 g.ports.length k4) rfl;have zl:=hB.lt;obtain ⟨op,arg⟩:=t;dsimp only at *;have hv:=hs.node;have hvc:v<c.length:=by rw [hs.len];exact hv
 have hdv:decide (v<c.length)=true:=by simpa using hvc
 have HB:=(Bel.refl w).alloc (.cells #[.int .i64 op,.int .i64 arg] 98);clear hK hB eG eC
 rcases aXa hr with hq | rfl | rfl | hq
 .clear hP hC hb hp har
  have HF:Hid (aGg g c v port ⟨op,arg⟩=if op=1 then arg else if op=2 then 1 else if op=3 then 0 else -1):=by
   show aGg g c v port ⟨op,arg⟩=_
   unfold aGg
   rcases hq with rfl | rfl | rfl | rfl <;> simp
  rcases hq with rfl | rfl | rfl | rfl
  all_goals
   go_enter func163,ntmps163;go_wp2;go_ret;exact ⟨aA5 HF.out.symm,HB⟩
 .obtain ⟨a1,a2⟩:=aHu ha (.inl rfl)
  obtain ⟨a,rfl⟩:=Int.eq_ofNat_of_zero_le a1;have hac:a<c[v].length:=by rw [hs.row hv];omega
  obtain ⟨b1,o1,R,rc,rfl,hb1,hrow,hR,_,_⟩:=hC.at_ v hvc;obtain ⟨b2,o2,rfl,hb2,hval⟩:=hR.at_ a hac
  have HF:Hid (aGg g c v port ⟨5,(a:Int)⟩=c[v][a]):=by
   show (c.getD v []).getD (a:Int).toNat 0=_
   rw [Int.toNat_natCast,aAa hvc,aAa hac]
  have hda:decide (a<c[v].length)=true:=by simpa using hac
  clear hP hC hb hp har hR ha;go_enter func163,ntmps163;go_wp2
  go_quiet (fail)
  go_wp2;go_ret;exact ⟨aA5 HF.out.symm,HB.drewN _⟩
 .obtain ⟨a1,a2⟩:=aHu ha (.inr rfl)
  obtain ⟨a,rfl⟩:=Int.eq_ofNat_of_zero_le a1;obtain ⟨q,rfl,hq⟩:=hp (hb (by unfold aCw;simp))
  rw [aAa hv] at hq;obtain ⟨e,t,ht,htl,_⟩:=aJg hs.gok hv hq;obtain ⟨b3,o3,R3,rc3,rfl,hb3,hrow3,hL3,_,_⟩:=hP.at_ v hv;obtain ⟨b4,o4,rfl,hb4,hto,_⟩:=hL3.at_ q hq;rw [ht] at hto;have htc:t<c.length:=by rw [hs.len];exact htl
  have hac:a<c[t].length:=by rw [hs.row htl];omega
  obtain ⟨b1,o1,R,rc,rfl,hb1,hrow,hR,_,_⟩:=hC.at_ t htc;obtain ⟨b2,o2,rfl,hb2,hval⟩:=hR.at_ a hac
  have HF:Hid (aGg g c v (q:Int) ⟨12,(a:Int)⟩=c[t][a]):=by
   show (c.getD (aGk g v q).to.toNat []).getD (a:Int).toNat 0=_
   rw [e,ht,Int.toNat_natCast,Int.toNat_natCast,aAa htc,aAa hac]
  have hda:decide (a<c[t].length)=true:=by simpa using hac
  have hdt:decide (t<c.length)=true:=by simpa using htc
  have hdp:decide (v<g.ports.length)=true:=by simpa using hv
  have hdq:decide (q<g.ports[v].length)=true:=by simpa using hq
  clear hP hC hb hp har hR ha hL3 e ht;go_enter func163,ntmps163;go_wp2
  go_quiet (fail)
  go_wp2;go_ret;exact ⟨aA5 HF.out.symm,HB.drewN _⟩
 .have HF:Hid (aGg g c v port ⟨op,arg⟩=aD8 g op v port):=by
   show aGg g c v port ⟨op,arg⟩=_
   unfold aGg;dsimp only;rw [if_neg (by omega),if_neg (by omega),if_neg (by omega),if_neg (by omega),if_neg (by omega),if_neg (by omega)]
  have e1:(op==1)=false:=by simp;omega
  have e2:(op==2)=false:=by simp;omega
  have e3:(op==3)=false:=by simp;omega
  have e4:(op==4)=false:=by simp;omega
  have e5:(op==5)=false:=by simp;omega
  have e12:(op==12)=false:=by simp;omega
  have HG:=aA0 hs.gok;have HQ:=aA0 hq;have HBB:=aA0 hb;have HPP:=aA0 hp;have hcell:=aA0 (fun w' (kk:Bel (w.alloc (.cells #[.int .i64 op,.int .i64 arg] 98)) w')=>And.intro (((aA4 kk).cell yl).trans y0) (And.intro (((aA4 kk).cell yl).trans y2) (And.intro (aA9 kk 0 (v := .int .i64 op) rfl) (aAx kk))));clear hP hC hb hp har ha hq;replace HB:=Bel.refl (w.alloc (.cells #[.int .i64 op,.int .i64 arg] 98));go_enter func163,ntmps163
  go_wp2_with fail
  replace HB:=HB.drew
  go_region_held3 (fun w'=>w'.cell? ⟨K,0,none⟩=some (.pointer (some ⟨B,0,none⟩))/\w'.cell? ⟨K,2,none⟩=some (.int .i64 v)/\w'.cell? ⟨w.heap.size,0,none⟩=some (.int .i64 op)/\w.heap.size<w'.heap.size) (exact hcell.out _ HB)
   (first | (go_simp;go_at_call 180;refine (aZ1 B p g op v port b _ (HSC.out _ (aA4 HB)) HG.out hv HQ.out HBB.out HPP.out).mono ?_;rintro e w' ⟨rfl,hbb⟩;replace HB:=HB.trans hbb;clear hbb))
  go_wp2_with fail
  go_ret;exact ⟨aA5 HF.out.symm,aA4 HB⟩
end Go.Proofs.YtdcjnhoabbdanaaGreatDoor

