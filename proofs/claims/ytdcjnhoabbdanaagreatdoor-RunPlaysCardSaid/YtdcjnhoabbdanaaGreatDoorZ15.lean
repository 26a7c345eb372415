/- Merged. -/
import Derived.Test.YtdcjnhoabbdanaaGreatDoorZ14
set_option linter.unusedSimpArgs false
set_option linter.unnecessarySimpa false
set_option linter.unusedVariables false
set_option maxRecDepth 100000
set_option maxHeartbeats 4000000
open Go.Proofs.Tryz

namespace Go.Proofs.YtdcjnhoabbdanaaGreatDoor
open Go.RowKit
def aGl (g:Graph) (x:Var):Bool:=decide (x.kind≠1∨((aAg x g 0).1<=(aAg x g 0).2/\(aAg x g 0).2-(aAg x g 0).1+1<=4096))
def aH4 (p:Prg) (g:Graph):Int :=
 if aBj p≠0 then 8 else if aDa g=false then 1 else if p.vars.all (aGl g)=false then 9 else 0
theorem aHc {x:Var} {g:Graph} {v:Nat} (hx:aBm x=true) (hg:GOK g) (hv:v<g.ports.length) : -4096<=(aAg x g v).1/\(aAg x g v).1<=4096 /\ -4096<=(aAg x g v).2/\(aAg x g v).2<=80000:=by
 have hle:=hg.le;have hids:=hg.ids;obtain ⟨g1,g2⟩:=aI0 hg;have hlen:=aCc hv (hg.links v hv);unfold aAg;rw [aA6 hv]
 rcases aDt hx with h | h | h
 .rw [if_pos h.1];simp
 .rw [if_neg (by omega),if_pos h.1];simp;omega
 .rw [if_neg (by omega),if_neg (by omega)]
  obtain ⟨_,a1,a2,a3,a4,a5⟩:=h;obtain ⟨m1,m2⟩:=aG6 a2.1 a2.2 (show (0:Int)<=g.ids.length by omega) (show (g.ids.length:Int)<=24 by omega)
  obtain ⟨m3,m4⟩:=aG6 a3.1 a3.2 g1 g2;simp only []
  omega
theorem aBd {p:Prg} (h:aBj p=0):p.vars.all aBm=true/\1<=p.vars.length/\p.vars.length<=6/\p.rules.length<=12/\aCk p=true/\(∀ r∈p.rules,FOK p.vars.length r)/\(∀ r∈p.rules,aBx (aBg p) r=true):=by
 unfold aBj at h;split at h
 .cases h
 .rename_i hn
  split at h
  .cases h
  .rename_i h1
   split at h
   .cases h
   .rename_i h2
    split at h
    .cases h
    .rename_i h3
     split at h
     .cases h
     .rename_i h4
      refine ⟨by simpa using h2,by omega,by omega,by omega,by simpa using h1,fun r hr=>?_,fun r hr=>?_⟩
      .exact (aE1 _ _).1 (List.all_eq_true.1 (by simpa using h3:p.rules.all (aC0 p.vars.length)=true) r hr)
      .exact List.all_eq_true.1 (by simpa using h4:p.rules.all (aBx (aBg p))=true) r hr
theorem aOt (v:Value) (p:Prg) (v2:Value) (g:Graph) (w:World) (h:aEk w v p) (h2:aAl w v2 g) (hL:aAs p=true) (hG:aB5 g=true) :
  Calls prog 81 #[v,v2] w fun e w'=>e = .returned (.int .i64 (aH4 p g))/\Bel w w':=by
 have HPV:=aA0 (fun w' (k:Bel w w')=>h.keep k);have HGV:=aA0 (fun w' (k:Bel w w')=>h2.keep k);obtain ⟨A,k,A2,k2,rfl,hV,_,_,_,_,_⟩:=h;obtain ⟨A3,k3,A4,k4,rfl,_,_,_,_,_,_⟩:=h2;have HV:=aA0 (fun w' (k:Bel w w')=>aH8.keep hV k);clear hV;have HL:=aA0 hL;have HGL:=aA0 hG;clear hL hG;have HW:=Bel.refl ((w.alloc (.cells #[.string p.name,.slice A p.vars.length k,.slice A2 p.rules.length k2] 25)).alloc (.cells #[.slice A3 g.ids.length k3,.slice A4 g.ports.length k4] 29));have HF:Hid (aH4 p g=if aBj p≠0 then 8 else if aDa g=false then 1 else if p.vars.all (aGl g)=false then 9 else 0):=rfl
 by_cases hc:aBj p=0
 .have hcb:decide (aBj p=0)=true:=by simpa using hc
  rw [if_neg (by simpa using hc)] at HF
  have HCN:=aA0 (aBd hc);have HCB:=aA0 hcb;clear hc hcb;have hn6:=HCN.out.2.2.1;cases hg:aDa g with
  | false =>
   rw [hg,if_pos rfl] at HF;go_enter func81,ntmps81
   go_wp2_with (first
    | (go_at_call 101;refine (aHl _ p _ (HPV.out _ (aA1 HW)) HL.out).mono ?_;rintro e w' ⟨rfl,hb⟩;rw [HCB.out];replace HW:=HW.trans hb;clear hb;obtain ⟨p0,p1,p2,g0,g1,gsz⟩:=aAh HW)
    | (go_at_call 102;refine (aIb _ g _ (HGV.out _ (aA1 HW)) HGL.out).mono ?_;rintro e w' ⟨rfl,hb⟩;rw [hg];replace HW:=HW.trans hb;clear hb))
   go_ret;exact ⟨aA4 HF.out.symm,aA1 HW⟩
  | true =>
   rw [hg,if_neg (by decide)] at HF
   have HGG:=aA0 hg;have HGO:=aA0 ((aCz g).1 hg);clear hg;go_enter func81,ntmps81
   go_wp2_with (first
    | (go_at_call 101;refine (aHl _ p _ (HPV.out _ (aA1 HW)) HL.out).mono ?_;rintro e w' ⟨rfl,hb⟩;rw [HCB.out];replace HW:=HW.trans hb;clear hb;obtain ⟨p0,p1,p2,g0,g1,gsz⟩:=aAh HW)
    | (go_at_call 102;refine (aIb _ g _ (HGV.out _ (aA1 HW)) HGL.out).mono ?_;rintro e w' ⟨rfl,hb⟩;rw [HGG.out];replace HW:=HW.trans hb;clear hb p0 p1 p2 g0 g1 gsz;obtain ⟨p0,p1,p2,g0,g1,gsz⟩:=aAh HW))
   clear p0 p1 p2 g0 g1 gsz
   go_loopg [6,7,8,18] p.vars.length (fun m _x _y _u z wr=>∃ j:Nat,j<=p.vars.length/\m=p.vars.length-j/\z = .int .i64 j/\Hid ((p.vars.take j).all (aGl g)=true)/\Bel ((w.alloc (.cells #[.string p.name,.slice A p.vars.length k,.slice A2 p.rules.length k2] 25)).alloc (.cells #[.slice A3 g.ids.length k3,.slice A4 g.ports.length k4] 29)) wr)
   case atStart=>exact ⟨0,by omega,rfl,rfl,rfl,HW⟩
   case round =>
    clear HW;obtain ⟨i,hi,rfl,rfl,HJ,HW⟩:=hrel
    by_cases hlt:i<p.vars.length
    .have hd0:decide (i<p.vars.length)=true:=by simpa using hlt
     obtain ⟨p0,p1,p2,g0,g1,gsz⟩:=aAh HW;obtain ⟨b,o,rfl,hb,c0,c1,c2,c3,c4,c5⟩:=(HV.out _ (aA1 HW)).at_ i hlt;have HNX:=aA0 (List.all_eq_true.1 HCN.out.1 _ (List.getElem_mem hlt));have hpos:0<g.ports.length:=HGO.out.pos;have hbs:=aHc HNX.out HGO.out hpos;have HFV:Hid (aGl g p.vars[i]=decide (p.vars[i].kind≠1∨((aAg p.vars[i] g 0).1<=(aAg p.vars[i] g 0).2/\(aAg p.vars[i] g 0).2-(aAg p.vars[i] g 0).1+1<=4096))):=rfl;have HW2:=HW.alloc (.cells #[.string p.vars[i].name,.int .i64 p.vars[i].kind,.int .i64 p.vars[i].lo,.int .i64 p.vars[i].hi,.int .i64 p.vars[i].perNode,.int .i64 p.vars[i].perID] 100)
     by_cases hk:p.vars[i].kind=1
     .have hkb:(p.vars[i].kind != 1)=false:=by simpa using hk
      have HK:=aA0 hk;clear hk;generalize hbd:aAg p.vars[i] g 0=B at *;have HBD:=aA0 hbd;clear hbd;obtain ⟨lo,hi'⟩:=B;dsimp only at hbs HFV
      by_cases hok:lo<=hi'/\hi' - lo+1<=4096
      .have d1:decide (hi' < lo)=false:=by simp;omega
       have d2:decide (4096<hi' - lo+1)=false:=by simp;omega
       have HN:=aA0 (aA9 hlt HJ.out (by rw [HFV.out];simp;omega))
       go_wp2_with (go_at_call 103;refine (aHz p.vars[i] _ g 0 _ (HGV.out _ (aA1 HW2)) HNX.out HGO.out hpos HGL.out).mono ?_;rintro e w' ⟨rfl,hb⟩;rw [HBD.out];replace HW2:=HW2.trans hb;clear hb)
       go_roundg (p.vars.length-(i+1))
       case rel=>exact ⟨i+1,by omega,rfl,by go_num,HN,HW2⟩
       case measure=>omega
      .rw [aAj hlt (by rw [HFV.out,decide_eq_false];have:=HK.out;omega),if_pos rfl] at HF
       by_cases d1:hi' < lo
       .have d1:decide (hi' < lo)=true:=by simpa using d1
        clear hok
        go_wp2_with (go_at_call 103;refine (aHz p.vars[i] _ g 0 _ (HGV.out _ (aA1 HW2)) HNX.out HGO.out hpos HGL.out).mono ?_;rintro e w' ⟨rfl,hb⟩;rw [HBD.out];replace HW2:=HW2.trans hb;clear hb)
        go_ret;exact ⟨aA4 HF.out.symm,aA1 HW2⟩
       .have d2:decide (4096<hi' - lo+1)=true:=by simp;omega
        have d1:decide (hi' < lo)=false:=by simpa using d1
        clear hok
        go_wp2_with (go_at_call 103;refine (aHz p.vars[i] _ g 0 _ (HGV.out _ (aA1 HW2)) HNX.out HGO.out hpos HGL.out).mono ?_;rintro e w' ⟨rfl,hb⟩;rw [HBD.out];replace HW2:=HW2.trans hb;clear hb)
        go_ret;exact ⟨aA4 HF.out.symm,aA1 HW2⟩
     .have hkb:(p.vars[i].kind != 1)=true:=by simpa using hk
      have HN:=aA0 (aA9 hlt HJ.out (by rw [HFV.out];simp [hk]))
      go_wp2_with fail
      go_roundg (p.vars.length-(i+1))
      case rel=>exact ⟨i+1,by omega,rfl,by go_num,HN,HW2⟩
      case measure=>omega
    .have hd0:decide (i<p.vars.length)=false:=by simpa using hlt
     rw [aAk (by omega) HJ.out,if_neg (by decide)] at HF
     go_wp2_with fail
     go_ret;exact ⟨aA4 HF.out.symm,aA1 HW⟩
 .have hcb:decide (aBj p=0)=false:=by simpa using hc
  rw [if_pos hc] at HF;have HCB:=aA0 hcb;clear hc hcb;go_enter func81,ntmps81
  go_wp2_with (go_at_call 101;refine (aHl _ p _ (HPV.out _ (aA1 HW)) HL.out).mono ?_;rintro e w' ⟨rfl,hb⟩;rw [HCB.out];replace HW:=HW.trans hb;clear hb)
  go_ret;exact ⟨aA4 HF.out.symm,aA1 HW⟩
theorem aJ1 (v:Value) (p:Prg) (v2:Value) (g:Graph) (w:World) (h:aEk w v p) (h2:aAl w v2 g) (hL:aAs p=true) (hG:aB5 g=true) :
  Calls prog 90 #[v,v2] w fun e w'=>e = .returned (.int .i64 (aH4 p g))/\Bel w w':=by
 have HPV:=aA0 (fun w' (k:Bel w w')=>h.keep k);have HGV:=aA0 (fun w' (k:Bel w w')=>h2.keep k);obtain ⟨A,k,A2,k2,rfl,hV,_,_,_,_,_⟩:=h;obtain ⟨A3,k3,A4,k4,rfl,_,_,_,_,_,_⟩:=h2;have HV:=aA0 (fun w' (k:Bel w w')=>aH8.keep hV k);clear hV;have HL:=aA0 hL;have HGL:=aA0 hG;clear hL hG;have HW:=Bel.refl ((w.alloc (.cells #[.string p.name,.slice A p.vars.length k,.slice A2 p.rules.length k2] 25)).alloc (.cells #[.slice A3 g.ids.length k3,.slice A4 g.ports.length k4] 29));have HF:Hid (aH4 p g=if aBj p≠0 then 8 else if aDa g=false then 1 else if p.vars.all (aGl g)=false then 9 else 0):=rfl
 by_cases hc:aBj p=0
 .have hcb:decide (aBj p=0)=true:=by simpa using hc
  rw [if_neg (by simpa using hc)] at HF
  have HCN:=aA0 (aBd hc);have HCB:=aA0 hcb;clear hc hcb;have hn6:=HCN.out.2.2.1;cases hg:aDa g with
  | false =>
   rw [hg,if_pos rfl] at HF;go_enter func90,ntmps90
   go_wp2_with (first
    | (go_at_call 114;refine (aFa _ p _ (HPV.out _ (aA1 HW)) HL.out).mono ?_;rintro e w' ⟨rfl,hb⟩;rw [HCB.out];replace HW:=HW.trans hb;clear hb;obtain ⟨p0,p1,p2,g0,g1,gsz⟩:=aAh HW)
    | (go_at_call 72;refine (aBt _ g _ (HGV.out _ (aA1 HW)) HGL.out).mono ?_;rintro e w' ⟨rfl,hb⟩;rw [hg];replace HW:=HW.trans hb;clear hb))
   go_ret;exact ⟨aA4 HF.out.symm,aA1 HW⟩
  | true =>
   rw [hg,if_neg (by decide)] at HF
   have HGG:=aA0 hg;have HGO:=aA0 ((aCz g).1 hg);clear hg;go_enter func90,ntmps90
   go_wp2_with (first
    | (go_at_call 114;refine (aFa _ p _ (HPV.out _ (aA1 HW)) HL.out).mono ?_;rintro e w' ⟨rfl,hb⟩;rw [HCB.out];replace HW:=HW.trans hb;clear hb;obtain ⟨p0,p1,p2,g0,g1,gsz⟩:=aAh HW)
    | (go_at_call 72;refine (aBt _ g _ (HGV.out _ (aA1 HW)) HGL.out).mono ?_;rintro e w' ⟨rfl,hb⟩;rw [HGG.out];replace HW:=HW.trans hb;clear hb p0 p1 p2 g0 g1 gsz;obtain ⟨p0,p1,p2,g0,g1,gsz⟩:=aAh HW))
   clear p0 p1 p2 g0 g1 gsz
   go_loopg [5,6,7] p.vars.length (fun m z _y _u wr=>∃ j:Nat,j<=p.vars.length/\m=p.vars.length-j/\z = .int .i64 j/\Hid ((p.vars.take j).all (aGl g)=true)/\Bel ((w.alloc (.cells #[.string p.name,.slice A p.vars.length k,.slice A2 p.rules.length k2] 25)).alloc (.cells #[.slice A3 g.ids.length k3,.slice A4 g.ports.length k4] 29)) wr)
   case atStart=>exact ⟨0,by omega,rfl,rfl,rfl,HW⟩
   case round =>
    clear HW;obtain ⟨i,hi,rfl,rfl,HJ,HW⟩:=hrel;obtain ⟨p0,p1,p2,g0,g1,gsz⟩:=aAh HW
    by_cases hlt:i<p.vars.length
    .have hd0:decide (i<p.vars.length)=true:=by simpa using hlt
     have HNX:=aA0 (List.all_eq_true.1 HCN.out.1 _ (List.getElem_mem hlt));have hpos:0<g.ports.length:=HGO.out.pos;have hbs:=aHc HNX.out HGO.out hpos;have HFV:Hid (aGl g p.vars[i]=decide (p.vars[i].kind≠1∨((aAg p.vars[i] g 0).1<=(aAg p.vars[i] g 0).2/\(aAg p.vars[i] g 0).2-(aAg p.vars[i] g 0).1+1<=4096))):=rfl;generalize hbd:aAg p.vars[i] g 0=B at *;have HBD:=aA0 hbd;clear hbd;obtain ⟨lo,hi'⟩:=B;dsimp only at hbs HFV
     go_wp2_with fail
     refine (aJc _ p _ g 0 i _ (HPV.out _ (aA1 HW)) (HGV.out _ (aA1 HW)) hlt HNX.out HGO.out hpos HGL.out).mono ?_
     rintro e w' ⟨rfl,hb⟩;rw [HBD.out];replace HW:=HW.trans hb;clear hb p0 p1 p2 g0 g1 gsz;obtain ⟨p0,p1,p2,g0,g1,gsz⟩:=aAh HW;obtain ⟨b,o,rfl,hb,c0,c1,c2,c3,c4,c5⟩:=(HV.out _ (aA1 HW)).at_ i hlt;dsimp only
     by_cases hk:p.vars[i].kind=1
     .have hkb:(p.vars[i].kind==1)=true:=by simpa using hk
      have HK:=aA0 hk;clear hk
      by_cases hok:lo<=hi'/\hi' - lo+1<=4096
      .have d1:inB (hi' - lo) 0 4095=true:=aDf (by omega) (by omega)
       have HN:=aA0 (aA9 hlt HJ.out (by rw [HFV.out];simp;omega))
       go_wp2_with (go_at_call 92;refine (aCf _ _ _ _).mono ?_;rintro e w' ⟨rfl,rfl⟩)
       go_roundg (p.vars.length-(i+1))
       case rel=>exact ⟨i+1,by omega,rfl,by go_num,HN,HW⟩
       case measure=>omega
      .rw [aAj hlt (by rw [HFV.out,decide_eq_false];have:=HK.out;omega),if_pos rfl] at HF
       have d1:inB (hi' - lo) 0 4095=false:=aHg (by omega)
       clear hok
       go_wp2_with (go_at_call 92;refine (aCf _ _ _ _).mono ?_;rintro e w' ⟨rfl,rfl⟩)
       go_ret;exact ⟨aA4 HF.out.symm,aA1 HW⟩
     .have hkb:(p.vars[i].kind==1)=false:=by simpa using hk
      have HN:=aA0 (aA9 hlt HJ.out (by rw [HFV.out];simp [hk]))
      go_wp2_with fail
      go_roundg (p.vars.length-(i+1))
      case rel=>exact ⟨i+1,by omega,rfl,by go_num,HN,HW⟩
      case measure=>omega
    .have hd0:decide (i<p.vars.length)=false:=by simpa using hlt
     rw [aAk (by omega) HJ.out,if_neg (by decide)] at HF
     go_wp2_with fail
     go_ret;exact ⟨aA4 HF.out.symm,aA1 HW⟩
 .have hcb:decide (aBj p=0)=false:=by simpa using hc
  rw [if_pos hc] at HF;have HCB:=aA0 hcb;clear hc hcb;go_enter func90,ntmps90
  go_wp2_with (go_at_call 114;refine (aFa _ p _ (HPV.out _ (aA1 HW)) HL.out).mono ?_;rintro e w' ⟨rfl,hb⟩;rw [HCB.out];replace HW:=HW.trans hb;clear hb)
  go_ret;exact ⟨aA4 HF.out.symm,aA1 HW⟩
def Fr (g:Nat) (a b:World):Prop:=a.heap.size<=b.heap.size/\∀ k,k<a.heap.size->k≠g->b.heap[k]?=a.heap[k]?
theorem Fr.refl (g:Nat) (a:World):Fr g a a:=⟨Nat.le_refl _,fun _ _ _=>rfl⟩
theorem Fr.trans {g:Nat} {a b c:World} (h:Fr g a b) (k:Fr g b c):Fr g a c:=⟨Nat.le_trans h.1 k.1,fun i hi hg=>(k.2 i (Nat.lt_of_lt_of_le hi h.1) hg).trans (h.2 i hi hg)⟩
theorem Fr.of_bel {g:Nat} {a b:World} (h:Bel a b):Fr g a b:=⟨h.size,fun k hk _=>h.block k hk⟩
theorem Fr.alloc {g:Nat} {a b:World} (h:Fr g a b) (o:Obj):Fr g a (b.alloc o):=h.trans (Fr.of_bel ((Bel.refl b).alloc o))
theorem Fr.drew {g:Nat} {a b:World} (h:Fr g a b):Fr g a b.drew:=h
theorem Fr.drewN {g:Nat} {a b:World} (h:Fr g a b) (n:Nat):Fr g a (b.drewN n):=h
theorem Fr.set {g:Nat} {a b:World} (h:Fr g a b) (o:Nat) (v:Value):Fr g a (b.setCell ⟨g,o,none⟩ v) :=
 h.trans ⟨by simp,fun k hk hg=>Below.heap_setCell _ _ _ _ hg⟩
theorem Fr.cell {g:Nat} {a b:World} (h:Fr g a b) {k o:Nat} (hk:k<a.heap.size) (hg:k≠g):b.cell? ⟨k,o,none⟩=a.cell? ⟨k,o,none⟩:=by
 unfold World.cell?;rw [h.2 k hk hg]
theorem Fr.newer {g g':Nat} {a b c:World} (h:Fr g a b) (hg:a.heap.size<=g') (k:Fr g' b c):Fr g a c :=
 ⟨Nat.le_trans h.1 k.1,fun i hi hne=>(k.2 i (Nat.lt_of_lt_of_le hi h.1) (by omega)).trans (h.2 i hi hne)⟩
def aLp (w:World) (b o:Nat) (x:Int × Int):Prop:=w.cell? ⟨b,o,none⟩=some (.int .i64 x.1)/\w.cell? ⟨b,o+1,none⟩=some (.int .i64 x.2)
theorem aLp.keeps:aL8 aLp:=fun _ _ _ _ _ k hb h=>⟨(k.cell hb).trans h.1,(k.cell hb).trans h.2⟩
def aKm:=aAc 2 aLp
def aNr:=aAc 1 (aI5 2 aLp)
theorem aNr.keep {w w':World} {A:Option Addr} {n:Nat} {xs:List (List (Int × Int))} (h:aNr w A n xs) (k:Bel w w'):aNr w' A n xs:=aAc.keep (aI5.keeps aLp.keeps) h k
theorem aKm.keep {w w':World} {A:Option Addr} {n:Nat} {xs:List (Int × Int)} (h:aKm w A n xs) (k:Bel w w'):aKm w' A n xs:=aAc.keep aLp.keeps h k
theorem aNr.at_ {w:World} {A:Option Addr} {n:Nat} {xs:List (List (Int × Int))} (h:aNr w A n xs) (k:Nat) (hk:k<xs.length) :
  ∃ b o R c,A=some ⟨b,o,none⟩/\b<w.heap.size/\w.cell? ⟨b,o+k,none⟩=some (.slice R xs[k].length c)/\aKm w R xs[k].length xs[k]/\xs[k].length<=c/\c<=maxLen:=RowsAt.at_ h k hk
theorem aKm.at_ {w:World} {A:Option Addr} {n:Nat} {xs:List (Int × Int)} (h:aKm w A n xs) (k:Nat) (hk:k<xs.length) :
  ∃ b o,A=some ⟨b,o,none⟩/\b<w.heap.size/\w.cell? ⟨b,o+k*2,none⟩=some (.int .i64 xs[k].1)/\w.cell? ⟨b,o+k*2+1,none⟩=some (.int .i64 xs[k].2):=aAc.at_ h k hk
def aI8 (w:World) (v:Value) (t:List (List (Int × Int))):Prop:=∃ A c,v = .slice A t.length c/\aNr w A t.length t/\t.length<=c/\c<=maxLen
theorem aI8.keep {w w':World} {v:Value} {t:List (List (Int × Int))} (h:aI8 w v t) (k:Bel w w'):aI8 w' v t:=by
 obtain ⟨A,c,e,h1,h2⟩:=h;exact ⟨A,c,e,h1.keep k,h2⟩
def aI2 (p:Prg) (g:Graph) (v:Nat):List (Int × Int):=p.vars.map fun x=>aAg x g v
def aAv (p:Prg) (g:Graph):List (List (Int × Int)):=(List.range g.ids.length).map (aI2 p g)
def aXl (t:List (List (Int × Int))) (w:World) (e:Ending) (w':World):Prop:=∃ v,e = .returned v/\aI8 w' v t/\Bel w w'
def aJ7 (N:Nat) (w:World) (v:Value) (t:List (List (Int × Int))):Prop:=∀ W,aAt N w W->aI8 W v t
theorem aJ7.keep {N:Nat} {w w':World} {v:Value} {t:List (List (Int × Int))} (h:aJ7 N w v t) (k:Bel w w'):aJ7 N w' v t:=fun W hW=>h W (hW.back k)
theorem aJ7.low {N M:Nat} {w:World} {v:Value} {t:List (List (Int × Int))} (h:aJ7 N w v t) (hM:M<=N):aJ7 M w v t:=fun W hW=>h W (hW.up hM)
def aVh (t:List (List (Int × Int))) (w:World) (e:Ending) (w':World):Prop:=∃ v,e = .returned v/\aJ7 w.heap.size w' v t/\Bel w w'
def aLd (w:World) (N m gb v:Nat) (hs:List Value) (t:List (List (Int × Int))):Prop :=
 ∀ u,u<v->∃ gu,hs[u]?=some (.slice (some ⟨gu,0,none⟩) m m)/\gu≠gb/\gu<w.heap.size/\N<=gu/\∀ x i,(t.getD u [])[i]?=some x->aLp w gu (i*2) x
theorem aLd.kept {w w':World} {N m gb v:Nat} {hs:List Value} {t:List (List (Int × Int))} (h:aLd w N m gb v hs t) (hf:Fr gb w w'):aLd w' N m gb v hs t:=fun u hu=>by
 obtain ⟨gu,h1,h2,h3,h5,h4⟩:=h u hu;exact ⟨gu,h1,h2,Nat.lt_of_lt_of_le h3 hf.1,h5,fun x i hx=>⟨(hf.cell h3 h2).trans (h4 x i hx).1,(hf.cell h3 h2).trans (h4 x i hx).2⟩⟩
theorem aTh {w w':World} {base:Nat} {e:TypeId} {size gb n c g:Nat} {xs:List Value} (h:w.ownsRow base e size (.slice (some ⟨gb,0,none⟩) n c) n xs) (hf:Fr g w w') (hne:gb≠g):w'.ownsRow base e size (.slice (some ⟨gb,0,none⟩) n c) n xs:=by
 refine ⟨h.1,?_⟩
 rcases h.2 with ⟨hv,_⟩ | ⟨g',cap,cur,hv,hb,hg,hr⟩
 .cases hv
 .right
  refine ⟨g',cap,cur,hv,hb,?_,hr⟩
  injection hv with hA;injection hA with hA;injection hA with hA;subst hA
  rw [hf.2 gb (lt_of_block hg) hne];exact hg
theorem aG7 {w:World} {base:Nat} {e:TypeId} {g n c:Nat} {xs:List Value} (h:w.ownsRow base e 1 (.slice (some ⟨g,0,none⟩) n c) n xs) (j:Nat) (hj:j<xs.length):w.cell? ⟨g,j,none⟩=some xs[j]:=by
 obtain ⟨g',e1,_,_,h1,_⟩:=aDb h (List.getElem?_eq_getElem hj);obtain rfl:g=g':=by simpa using e1
 exact h1
def aK5 (l:List Term) (k:Nat):List Term:=l.take k++List.replicate (l.length-k) ⟨0,0⟩
theorem aUb (l:List Term):aK5 l 0=List.replicate l.length ⟨0,0⟩:=by simp [aK5]
theorem aU9 (l:List Term) (k:Nat) (h:l.length<=k):aK5 l k=l:=by simp [aK5,List.take_of_length_le h,show l.length-k=0 by omega]
theorem aQ5 (l:List Term) (k:Nat):(aK5 l k).length=l.length:=by simp [aK5];omega
theorem aVy (l:List Term) (k:Nat) (h:k<l.length):(aK5 l k)[k]?=some ⟨0,0⟩:=by
 unfold aK5;rw [List.getElem?_append_right (by simp;omega)]
 rw [List.length_take,Nat.min_eq_left (Nat.le_of_lt h),Nat.sub_self,List.getElem?_replicate,if_pos (by omega)]
theorem aUa (l:List Term) (k:Nat) (h:k<l.length):(aK5 l k).set k l[k]=aK5 l (k+1):=by
 unfold aK5;rw [List.set_append_right _ _ (by simp;omega),List.length_take,Nat.min_eq_left (Nat.le_of_lt h),Nat.sub_self,show l.length-k=(l.length-(k+1))+1 by omega,List.replicate_succ,List.set_cons_zero]
 conv=>rhs;rw [List.take_succ_eq_append_getElem h,List.append_assoc]
 rfl
theorem aNo (es:List Term) (k:Nat) (t:Term) (h:k<es.length):((es.flatMap aCa).set (k*2) (.int .i64 t.op)).set (k*2+1) (.int .i64 t.arg)=(es.set k t).flatMap aCa:=by
 induction es generalizing k with
 | nil=>simp at h
 | cons x es ih =>
  cases k with
  | zero=>simp [aCa]
  | succ k =>
   have:=ih k (by simpa using h)
   rw [show (k+1)*2+1=(k*2+1)+1+1 by omega,show (k+1)*2=k*2+1+1 by omega]
   simpa [aCa] using this
theorem aT0 (m:Nat):(List.replicate m (⟨0,0⟩:Term)).flatMap aCa=List.replicate (m*2) (.int .i64 0):=by
 induction m with
 | zero=>rfl
 | succ m ih=>rw [List.replicate_succ,List.flatMap_cons,ih,show (m+1)*2=m*2+1+1 by omega,List.replicate_succ,List.replicate_succ];rfl
theorem aWe (m:Nat):(madeCells (Value.agg #[.int .i64 0,.int .i64 0]).cells (m*2)).toList=(List.replicate m (⟨0,0⟩:Term)).flatMap aCa:=by
 rw [aT0,List.eq_replicate_iff];refine ⟨by simp [madeCells],fun b hb=>?_⟩
 simp [madeCells,Value.cells] at hb
 obtain ⟨i,hi,rfl⟩:=hb
 rcases Nat.mod_two_eq_zero_or_one i with h | h <;> simp [h]
theorem aY5:(prog.info? 147).map (fun i=>(i.zero,i.size,i.bytes))=some (some (.slice none 0 0),1,24):=by kernel_rfl
theorem aWq:(prog.info? 149).map (fun i=>(i.zero,i.size,i.bytes))=some (some (.agg #[.int .i64 0,.int .i64 0]),2,16):=by kernel_rfl
theorem aOd (v:Value) (p:Prg) (v2:Value) (g:Graph) (w:World) (h:aEk w v p) (h2:aAl w v2 g) (hc:aBj p=0) (hg:GOK g) (hG:aB5 g=true) :
  Calls prog 83 #[v,v2] w (aVh (aAv p g) w):=by
 have HGV:=aA0 (fun w' (k:Bel w w')=>h2.keep k);obtain ⟨A,k,A2,k2,rfl,hV,_,_,_,_,_⟩:=h;obtain ⟨A3,k3,A4,k4,rfl,_,_,_,_,_,_⟩:=h2;have HV:=aA0 (fun w' (k:Bel w w')=>aH8.keep hV k);clear hV;obtain ⟨cn,c1,c6,_⟩:=aBd hc;have HCN:=aA0 cn;have HGO:=aA0 hg;have HGL:=aA0 hG;have hn:g.ids.length<=24:=by rw [hg.ids];exact hg.le
 obtain ⟨i0,hi0,hz0,hz1,hz2⟩:=info_parts aY5;obtain ⟨j0,hj0,hy0,hy1,hy2⟩:=info_parts aWq
 have HT:Hid (∀ u,u<g.ids.length->(aAv p g).getD u []=aI2 p g u):=fun u hu=>by
  unfold aAv;simp [List.getD_eq_getElem?_getD,hu]
 clear cn hc hg hG;go_enter func83,ntmps83
 go_wp2_with (at_make;refine aFd _ rfl 124 (.tmp 11) (.tmp 11) rfl (w.heap.size+1+1) 147 i0 (.slice none 0 0) 1 underlying124 hi0 hz0 hz1 .i64 .i64 g.ids.length rfl rfl (by rw [hz2];omega) (by unfold maxLen;omega) (by simp) ?_;intro gb w1 hown hb;have HW:=hb;rw [aJh _ rfl] at hown;have HO:=aA0 hown;clear hown hb)
 obtain ⟨hgb1,hgb2⟩:=aBa HO.out;obtain ⟨p0,p1,p2,g0,g1,gsz⟩:=aAh HW;go_wp2;clear p0 p1 p2 g0 g1 gsz
 go_loopg [6,7,8,15] g.ids.length (fun m _x _y _u z wr=>∃ (v:Nat) (hs:List Value),v<=g.ids.length/\m=g.ids.length-v/\z = .int .i64 v/\Hid (wr.ownsRow (w.heap.size+1+1) 147 1 (.slice (some ⟨gb,0,none⟩) g.ids.length g.ids.length) g.ids.length hs)/\Hid (aLd wr w.heap.size p.vars.length gb v hs (aAv p g))/\Bel ((w.alloc (.cells #[.string p.name,.slice A p.vars.length k,.slice A2 p.rules.length k2] 25)).alloc (.cells #[.slice A3 g.ids.length k3,.slice A4 g.ports.length k4] 29)) wr)
 case atStart=>exact ⟨0,_,by omega,rfl,rfl,HO,fun u hu=>absurd hu (by omega),HW⟩
 case round =>
  clear HO HW hgb2;obtain ⟨wo,rfl⟩:∃ wo:World,wo=wr:=⟨_,rfl⟩;obtain ⟨v,hs,hv,rfl,rfl,HO,HD,HW⟩:=hrel
  by_cases hlt:v<g.ids.length
  .have hd0:decide (v<g.ids.length)=true:=by simpa using hlt
   obtain ⟨p0,p1,p2,g0,g1,gsz⟩:=aAh HW;have hwo:w.heap.size+1<wo.heap.size:=gsz;have hsl:hs.length=g.ids.length:=by have:=HO.out.1;omega
   have hfr0:=Fr.refl gb wo;have hvp:v<g.ports.length:=by rw [<- HGO.out.ids];exact hlt
   obtain ⟨row,hrow⟩:∃ row:List Term,row=(aI2 p g v).map (fun x=>(⟨x.1,x.2⟩:Term)):=⟨_,rfl⟩;have hrl:row.length=p.vars.length:=by rw [hrow];simp [aI2]
   have HROW:=aA0 hrow;have HRL:=aA0 hrl;clear hrow hrl
   go_wp2_with (at_make;refine aFd _ rfl 147 (.tmp 22) (.tmp 22) rfl wo.heap.size 149 j0 (.agg #[.int .i64 0,.int .i64 0]) 2 underlying147 hj0 hy0 hy1 .i64 .i64 p.vars.length rfl rfl (by rw [hy2];omega) (by unfold maxLen;omega) (Nat.le_refl _) ?_;intro gr w1 hown hb;rw [aWe] at hown;have HR:=aA0 hown;have HB1:=aA0 hb;have HO1:=aA0 (hb.owns HO.out);have y1:=aG7 HO1.out v (by omega);have y2:=HO1.out.frozenAt v;have ygb:=(aBa HO1.out).2;have hgr:=aBa hown;have HW1:=(HW.trans hb).setCell (p:=⟨gb,v,none⟩) (by simp;omega) (.slice (some ⟨gr,0,none⟩) p.vars.length p.vars.length);clear p0 p1 p2 g0 g1 gsz;obtain ⟨p0,p1,p2,g0,g1,gsz⟩:=aAh HW1;clear hown hb)
   have HO2:=aA0 (HO1.out.stored v (.slice (some ⟨gr,0,none⟩) p.vars.length p.vars.length)).1;have hne:gb≠gr:=by have:=(aBa HO.out).2;omega
   have HF1:=((Fr.of_bel (g:=gb) HB1.out).set v (.slice (some ⟨gr,0,none⟩) p.vars.length p.vars.length));have HR2:=aA0 (aTh HR.out ((Fr.refl gb w1).set v (.slice (some ⟨gr,0,none⟩) p.vars.length p.vars.length)) (Ne.symm hne));have hgr0:=(aBa HR.out).1;clear HO1 HR HB1 y1 y2 ygb hgr p0 p1 p2 g0 g1 gsz hd0;generalize hw2:w1.setCell ⟨gb,v,none⟩ (.slice (some ⟨gr,0,none⟩) p.vars.length p.vars.length)=w2 at *;clear hw2
   go_loopg [7,8,28] p.vars.length (fun m _x _y z ws=>∃ j:Nat,j<=p.vars.length/\m=p.vars.length-j/\z = .int .i64 j/\Hid (ws.ownsRow wo.heap.size 149 2 (.slice (some ⟨gr,0,none⟩) p.vars.length p.vars.length) p.vars.length ((aK5 row j).flatMap aCa))/\Hid (ws.ownsRow (w.heap.size+1+1) 147 1 (.slice (some ⟨gb,0,none⟩) g.ids.length g.ids.length) g.ids.length (hs.set v (.slice (some ⟨gr,0,none⟩) p.vars.length p.vars.length)))/\Fr gb wo ws/\Bel ((w.alloc (.cells #[.string p.name,.slice A p.vars.length k,.slice A2 p.rules.length k2] 25)).alloc (.cells #[.slice A3 g.ids.length k3,.slice A4 g.ports.length k4] 29)) ws)
   case atStart =>
    refine ⟨0,by omega,rfl,rfl,?_,HO2,HF1,HW1⟩
    show World.ownsRow _ _ _ _ _ _ _
    rw [aUb,HRL.out];exact HR2.out
   case round =>
    clear HO2 HF1 HW1 HR2 HW;obtain ⟨j,hj,rfl,rfl,HR,HO2,HF,HW⟩:=hrel
    by_cases hlt2:j<p.vars.length
    .have hd0:decide (j<p.vars.length)=true:=by simpa using hlt2
     obtain ⟨p0,p1,p2,g0,g1,gsz⟩:=aAh HW;obtain ⟨b,o,rfl,hb,c0,c1',c2,c3,c4,c5⟩:=(HV.out _ (aA1 HW)).at_ j hlt2;have HNX:=aA0 (List.all_eq_true.1 HCN.out _ (List.getElem_mem hlt2))
     have hrj:row[j]'(by rw [HRL.out];exact hlt2)=⟨(aAg p.vars[j] g v).1,(aAg p.vars[j] g v).2⟩:=by
      have:=HROW.out;subst this;simp [aI2]
     have HRJ:=aA0 hrj;clear hrj
     have hhd:wr.cell? ⟨gb,v,none⟩=some (.slice (some ⟨gr,0,none⟩) p.vars.length p.vars.length):=by
      have:=aG7 HO2.out v (by simp;omega)
      simpa using this
     have hgbl:=(aBa HO2.out).2;have hgrl:=(aBa HR.out).2;have HW1:=HW.alloc (.cells #[.string p.vars[j].name,.int .i64 p.vars[j].kind,.int .i64 p.vars[j].lo,.int .i64 p.vars[j].hi,.int .i64 p.vars[j].perNode,.int .i64 p.vars[j].perID] 100);have HG:=(Fr.refl gr (wr.alloc (.cells #[.string p.vars[j].name,.int .i64 p.vars[j].kind,.int .i64 p.vars[j].lo,.int .i64 p.vars[j].hi,.int .i64 p.vars[j].perNode,.int .i64 p.vars[j].perID] 100))).drew;have HR1:=aA0 (HR.out.alloc (.cells #[.string p.vars[j].name,.int .i64 p.vars[j].kind,.int .i64 p.vars[j].lo,.int .i64 p.vars[j].hi,.int .i64 p.vars[j].perNode,.int .i64 p.vars[j].perID] 100)).drew
     have hcell:=aA0 (fun w' (kk:Fr gr (wr.alloc (.cells #[.string p.vars[j].name,.int .i64 p.vars[j].kind,.int .i64 p.vars[j].lo,.int .i64 p.vars[j].hi,.int .i64 p.vars[j].perNode,.int .i64 p.vars[j].perID] 100)) w')=>by
      have hB:=(Bel.refl wr).alloc (.cells #[.string p.vars[j].name,.int .i64 p.vars[j].kind,.int .i64 p.vars[j].lo,.int .i64 p.vars[j].hi,.int .i64 p.vars[j].perNode,.int .i64 p.vars[j].perID] 100);have hbx:=Blk.new wr #[.string p.vars[j].name,.int .i64 p.vars[j].kind,.int .i64 p.vars[j].lo,.int .i64 p.vars[j].hi,.int .i64 p.vars[j].perNode,.int .i64 p.vars[j].perID] 100;have hsz:=kk.1;simp only [World.size_alloc] at hsz
      have hn1:wr.heap.size≠gr:=by omega
      have hn2:w.heap.size+1≠gr:=by omega
      exact show w'.cell? ⟨gb,v,none⟩=some (.slice (some ⟨gr,0,none⟩) p.vars.length p.vars.length)/\w'.cell? ⟨wr.heap.size,0,none⟩=some (.string p.vars[j].name)/\w'.cell? ⟨wr.heap.size,1,none⟩=some (.int .i64 p.vars[j].kind)/\w'.cell? ⟨wr.heap.size,2,none⟩=some (.int .i64 p.vars[j].lo)/\w'.cell? ⟨wr.heap.size,3,none⟩=some (.int .i64 p.vars[j].hi)/\w'.cell? ⟨wr.heap.size,4,none⟩=some (.int .i64 p.vars[j].perNode)/\w'.cell? ⟨wr.heap.size,5,none⟩=some (.int .i64 p.vars[j].perID)/\w'.cell? ⟨w.heap.size+1,0,none⟩=some (.slice A3 g.ids.length k3)/\w'.cell? ⟨w.heap.size+1,1,none⟩=some (.slice A4 g.ports.length k4)/\gb<w'.heap.size/\wr.heap.size<w'.heap.size/\w.heap.size+1<w'.heap.size/\gr<w'.heap.size from
       ⟨(kk.cell (by simp;omega) hne).trans ((hB.cell hgbl).trans hhd),(kk.cell (by simp) hn1).trans (hbx.cell 0 rfl),(kk.cell (by simp) hn1).trans (hbx.cell 1 rfl),(kk.cell (by simp) hn1).trans (hbx.cell 2 rfl),(kk.cell (by simp) hn1).trans (hbx.cell 3 rfl),(kk.cell (by simp) hn1).trans (hbx.cell 4 rfl),(kk.cell (by simp) hn1).trans (hbx.cell 5 rfl),(kk.cell (by simp;omega) hn2).trans ((hB.cell (by omega)).trans g0),(kk.cell (by simp;omega) hn2).trans ((hB.cell (by omega)).trans g1),by omega,by omega,by omega,by omega⟩)
     have hfg:=aVy row j (by rw [HRL.out];exact hlt2)
     obtain ⟨f1,f2⟩:=aHx _ j _ hfg;have HF1':=aA0 f1;have HF2':=aA0 f2;have hjm:j*2<p.vars.length*2:=by omega
     have hdv:decide (v<g.ids.length)=true:=by simpa using hlt
     clear hfg f1 f2
     go_wp2_with fail
     replace HW1:=HW1.drew
     go_region_held3 (fun w'=>w'.cell? ⟨gb,v,none⟩=some (.slice (some ⟨gr,0,none⟩) p.vars.length p.vars.length)/\w'.cell? ⟨wr.heap.size,0,none⟩=some (.string p.vars[j].name)/\w'.cell? ⟨wr.heap.size,1,none⟩=some (.int .i64 p.vars[j].kind)/\w'.cell? ⟨wr.heap.size,2,none⟩=some (.int .i64 p.vars[j].lo)/\w'.cell? ⟨wr.heap.size,3,none⟩=some (.int .i64 p.vars[j].hi)/\w'.cell? ⟨wr.heap.size,4,none⟩=some (.int .i64 p.vars[j].perNode)/\w'.cell? ⟨wr.heap.size,5,none⟩=some (.int .i64 p.vars[j].perID)/\w'.cell? ⟨w.heap.size+1,0,none⟩=some (.slice A3 g.ids.length k3)/\w'.cell? ⟨w.heap.size+1,1,none⟩=some (.slice A4 g.ports.length k4)/\gb<w'.heap.size/\wr.heap.size<w'.heap.size/\w.heap.size+1<w'.heap.size/\gr<w'.heap.size)
      (first | exact hcell.out _ HG | exact hcell.out _ (HG.set _ _) | exact hcell.out _ ((HG.set _ _).set _ _))
      (first | (go_simp;go_at_call 103;refine (aHz p.vars[j] _ g v _ (HGV.out _ (aA1 HW1)) HNX.out HGO.out hvp HGL.out).mono ?_;rintro e w4 ⟨rfl,hbb⟩;replace HW1:=HW1.trans hbb;replace HG:=HG.trans (Fr.of_bel hbb);replace HR1:=aA0 (hbb.owns HR1.out);clear hbb;have y1:=(aDb HR1.out HF1'.out);have y2:=(aDb HR1.out HF2'.out);obtain ⟨q1,e1,_,_,y1,z1⟩:=y1;obtain ⟨q2,e2,_,_,y2,z2⟩:=y2;obtain rfl:gr=q1:=(by simpa using e1);obtain rfl:gr=q2:=(by simpa using e2);clear e1 e2))
     go_wp2_with fail
     go_roundg (p.vars.length-(j+1))
     case rel =>
      have hst:=((HR1.out.stored (j*2) (.int .i64 (aAg p.vars[j] g v).1)).1.stored (j*2+1) (.int .i64 (aAg p.vars[j] g v).2)).1;have e2:=aNo (aK5 row j) j (row[j]'(by rw [HRL.out];exact hlt2)) (by rw [aQ5,HRL.out];exact hlt2)
      rw [aUa _ _ (by rw [HRL.out];exact hlt2),HRJ.out] at e2
      rw [e2] at hst;refine ⟨j+1,by omega,rfl,by go_num,hst,?_,?_,?_⟩
      .exact aTh (HO2.out.alloc _) ((HG.set _ _).set _ _) hne
      .exact (HF.alloc _).newer hgr0 ((HG.set _ _).set _ _)
      .exact (HW1.setCell (by simp;omega) _).setCell (by simp;omega) _
     case measure=>omega
    .have hd0:decide (j<p.vars.length)=false:=by simpa using hlt2
     obtain rfl:j=p.vars.length:=by omega
     go_wp2_with fail
     go_roundg (g.ids.length-(v+1))
     case rel =>
      refine ⟨v+1,_,by omega,rfl,by go_num,HO2,?_,HW⟩
      intro u hu
      rcases Nat.lt_or_ge u v with h | h
      .obtain ⟨gu,h1,h2,h3,h4⟩:=(HD.out.kept HF) u h
       exact ⟨gu,by rw [List.getElem?_set_ne (by omega)];exact h1,h2,h3,h4⟩
      .obtain rfl:u=v:=by omega
       refine ⟨gr,by rw [List.getElem?_set_self (by omega)],Ne.symm hne,(aBa HR.out).2,by have:=(aBa HR.out).1;omega,fun x i hx=>?_⟩
       have hR:=HR.out;rw [aU9 _ _ (by rw [HRL.out];exact Nat.le_refl _)] at hR
       rw [HT.out _ hlt] at hx;obtain ⟨f1,f2⟩:=aHx row i ⟨x.1,x.2⟩ (by rw [HROW.out,List.getElem?_map,hx];rfl)
       obtain ⟨q1,e1,_,_,y1,_⟩:=aDb hR f1;obtain ⟨q2,e2,_,_,y2,_⟩:=aDb hR f2;obtain rfl:gr=q1:=by simpa using e1
       obtain rfl:gr=q2:=by simpa using e2
       exact ⟨y1,y2⟩
     case measure=>omega
  .have hd0:decide (v<g.ids.length)=false:=by simpa using hlt
   go_wp2_with fail
   go_ret;have hl:(aAv p g).length=g.ids.length:=by simp [aAv]
   refine ⟨_,rfl,fun W hW=>⟨some ⟨gb,0,none⟩,g.ids.length,by rw [hl];rfl,⟨rfl,fun u x hx=>?_⟩,by omega,by unfold maxLen;omega⟩,aA1 HW⟩
   have hu:u<g.ids.length:=by have:=(List.getElem?_eq_some_iff.1 hx).1;omega
   obtain ⟨gu,h1,h2,h3,h5,h4⟩:=HD.out u (by omega)
   obtain ⟨g',e1,_,hlt',hcell,_⟩:=aDb HO.out h1;obtain rfl:gb=g':=by simpa using e1
   have hrow:(aAv p g).getD u []=x:=by rw [List.getD_eq_getElem?_getD,hx];rfl
   have hxl:x.length=p.vars.length:=by rw [<- hrow,HT.out u hu];simp [aI2]
   refine ⟨gb,0,rfl,Nat.lt_of_lt_of_le hlt' hW.1,some ⟨gu,0,none⟩,p.vars.length,?_,⟨rfl,fun i y hy=>⟨gu,0,rfl,Nat.lt_of_lt_of_le h3 hW.1,?_⟩⟩,by omega,by unfold maxLen;omega⟩
   .rw [hxl,Nat.zero_add,Nat.mul_one,hW.cell (by omega) hlt'];exact hcell
   .have:=h4 y i (by rw [hrow];exact hy)
    rw [Nat.zero_add];exact ⟨(hW.cell h5 h3).trans this.1,(hW.cell h5 h3).trans this.2⟩
theorem aRf (v:Value) (p:Prg) (v2:Value) (g:Graph) (w:World) (h:aEk w v p) (h2:aAl w v2 g) (hc:aBj p=0) (hg:GOK g) (hG:aB5 g=true) :
  Calls prog 83 #[v,v2] w (aXl (aAv p g) w):=(aOd v p v2 g w h h2 hc hg hG).mono fun _ _ ⟨v,h1,h2,h3⟩=>⟨v,h1,h2 _ (aAt.refl _ _),h3⟩
end Go.Proofs.YtdcjnhoabbdanaaGreatDoor

