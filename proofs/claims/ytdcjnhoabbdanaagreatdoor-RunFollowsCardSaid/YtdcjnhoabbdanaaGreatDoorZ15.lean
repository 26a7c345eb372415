/- Merged. -/
import Derived.Test.YtdcjnhoabbdanaaGreatDoorZ14
set_option linter.unusedSimpArgs false
set_option linter.unnecessarySimpa false
set_option linter.unusedVariables false
set_option maxRecDepth 100000
set_option maxHeartbeats 4000000
open Go.Proofs.Tryz

namespace Go.Proofs.YtdcjnhoabbdanaaGreatDoor
open Go.RowKit
def aH2 (g:Graph) (x:Var):Bool:=decide (x.kind≠1∨((aAk x g 0).1<=(aAk x g 0).2/\(aAk x g 0).2-(aAk x g 0).1+1<=4096))
def aHo (p:Prg) (g:Graph):Int :=
 if aBq p≠0 then 8 else if aEa g=false then 1 else if p.vars.all (aH2 g)=false then 9 else 0
theorem aHw {x:Var} {g:Graph} {v:Nat} (hx:aBu x=true) (hg:GOK g) (hv:v<g.ports.length) : -4096<=(aAk x g v).1/\(aAk x g v).1<=4096 /\ -4096<=(aAk x g v).2/\(aAk x g v).2<=80000:=by
 have hle:=hg.le;have hids:=hg.ids;obtain ⟨g1,g2⟩:=aIk hg;have hlen:=aCh hv (hg.links v hv);unfold aAk;rw [aAa hv]
 rcases aE1 hx with h | h | h
 .rw [if_pos h.1];simp
 .rw [if_neg (by omega),if_pos h.1];simp;omega
 .rw [if_neg (by omega),if_neg (by omega)]
  obtain ⟨_,a1,a2,a3,a4,a5⟩:=h;obtain ⟨m1,m2⟩:=aGl a2.1 a2.2 (show (0:Int)<=g.ids.length by omega) (show (g.ids.length:Int)<=24 by omega)
  obtain ⟨m3,m4⟩:=aGl a3.1 a3.2 g1 g2;simp only []
  omega
theorem aBi {p:Prg} (h:aBq p=0):p.vars.all aBu=true/\1<=p.vars.length/\p.vars.length<=6/\p.rules.length<=12/\aCq p=true/\(∀ r∈p.rules,FOK p.vars.length r)/\(∀ r∈p.rules,aC1 (aBo p) r=true):=by
 unfold aBq at h;split at h
 .cases h
 .rename_i hn
  split at h
  .cases h
  .rename_i h1
   split at h
   .cases h
   .rename_i h2
    split at h
    .cases h
    .rename_i h3
     split at h
     .cases h
     .rename_i h4
      refine ⟨by simpa using h2,by omega,by omega,by omega,by simpa using h1,fun r hr=>?_,fun r hr=>?_⟩
      .exact (aEd _ _).1 (List.all_eq_true.1 (by simpa using h3:p.rules.all (aC4 p.vars.length)=true) r hr)
      .exact List.all_eq_true.1 (by simpa using h4:p.rules.all (aC1 (aBo p))=true) r hr
theorem aPn (v:Value) (p:Prg) (v2:Value) (g:Graph) (w:World) (h:aEm w v p) (h2:aAn w v2 g) (hL:aAw p=true) (hG:aB3 g=true) :
  Calls prog 81 #[v,v2] w fun e w'=>e = .returned (.int .i64 (aHo p g))/\Bel w w':=by
 have HPV:=aA0 (fun w' (k:Bel w w')=>h.keep k);have HGV:=aA0 (fun w' (k:Bel w w')=>h2.keep k);obtain ⟨A,k,A2,k2,rfl,hV,_,_,_,_,_⟩:=h;obtain ⟨A3,k3,A4,k4,rfl,_,_,_,_,_,_⟩:=h2;have HV:=aA0 (fun w' (k:Bel w w')=>aHs.keep hV k);clear hV;have HL:=aA0 hL;have HGL:=aA0 hG;clear hL hG;have HW:=Bel.refl ((w.alloc (.cells #[.string p.name,.slice A p.vars.length k,.slice A2 p.rules.length k2] 25)).alloc (.cells #[.slice A3 g.ids.length k3,.slice A4 g.ports.length k4] 29));have HF:Hid (aHo p g=if aBq p≠0 then 8 else if aEa g=false then 1 else if p.vars.all (aH2 g)=false then 9 else 0):=rfl
 by_cases hc:aBq p=0
 .have hcb:decide (aBq p=0)=true:=by simpa using hc
  rw [if_neg (by simpa using hc)] at HF
  have HCN:=aA0 (aBi hc);have HCB:=aA0 hcb;clear hc hcb;have hn6:=HCN.out.2.2.1;cases hg:aEa g with
  | false =>
   rw [hg,if_pos rfl] at HF;go_enter func81,ntmps81
   go_wp2_with (first
    | (go_at_call 101;refine (aI4 _ p _ (HPV.out _ (aA1 HW)) HL.out).mono ?_;rintro e w' ⟨rfl,hb⟩;rw [HCB.out];replace HW:=HW.trans hb;clear hb;obtain ⟨p0,p1,p2,g0,g1,gsz⟩:=aAi HW)
    | (go_at_call 102;refine (aIy _ g _ (HGV.out _ (aA1 HW)) HGL.out).mono ?_;rintro e w' ⟨rfl,hb⟩;rw [hg];replace HW:=HW.trans hb;clear hb))
   go_ret;exact ⟨aA5 HF.out.symm,aA1 HW⟩
  | true =>
   rw [hg,if_neg (by decide)] at HF
   have HGG:=aA0 hg;have HGO:=aA0 ((aEe g).1 hg);clear hg;go_enter func81,ntmps81
   go_wp2_with (first
    | (go_at_call 101;refine (aI4 _ p _ (HPV.out _ (aA1 HW)) HL.out).mono ?_;rintro e w' ⟨rfl,hb⟩;rw [HCB.out];replace HW:=HW.trans hb;clear hb;obtain ⟨p0,p1,p2,g0,g1,gsz⟩:=aAi HW)
    | (go_at_call 102;refine (aIy _ g _ (HGV.out _ (aA1 HW)) HGL.out).mono ?_;rintro e w' ⟨rfl,hb⟩;rw [HGG.out];replace HW:=HW.trans hb;clear hb p0 p1 p2 g0 g1 gsz;obtain ⟨p0,p1,p2,g0,g1,gsz⟩:=aAi HW))
   clear p0 p1 p2 g0 g1 gsz
   go_loopg [6,7,8,18] p.vars.length (fun m _x _y _u z wr=>∃ j:Nat,j<=p.vars.length/\m=p.vars.length-j/\z = .int .i64 j/\Hid ((p.vars.take j).all (aH2 g)=true)/\Bel ((w.alloc (.cells #[.string p.name,.slice A p.vars.length k,.slice A2 p.rules.length k2] 25)).alloc (.cells #[.slice A3 g.ids.length k3,.slice A4 g.ports.length k4] 29)) wr)
   case atStart=>exact ⟨0,by omega,rfl,rfl,rfl,HW⟩
   case round =>
    clear HW;obtain ⟨i,hi,rfl,rfl,HJ,HW⟩:=hrel
    by_cases hlt:i<p.vars.length
    .have hd0:decide (i<p.vars.length)=true:=by simpa using hlt
     obtain ⟨p0,p1,p2,g0,g1,gsz⟩:=aAi HW;obtain ⟨b,o,rfl,hb,c0,c1,c2,c3,c4,c5⟩:=(HV.out _ (aA1 HW)).at_ i hlt;have HNX:=aA0 (List.all_eq_true.1 HCN.out.1 _ (List.getElem_mem hlt));have hpos:0<g.ports.length:=HGO.out.pos;have hbs:=aHw HNX.out HGO.out hpos;have HFV:Hid (aH2 g p.vars[i]=decide (p.vars[i].kind≠1∨((aAk p.vars[i] g 0).1<=(aAk p.vars[i] g 0).2/\(aAk p.vars[i] g 0).2-(aAk p.vars[i] g 0).1+1<=4096))):=rfl;have HW2:=HW.alloc (.cells #[.string p.vars[i].name,.int .i64 p.vars[i].kind,.int .i64 p.vars[i].lo,.int .i64 p.vars[i].hi,.int .i64 p.vars[i].perNode,.int .i64 p.vars[i].perID] 100)
     by_cases hk:p.vars[i].kind=1
     .have hkb:(p.vars[i].kind != 1)=false:=by simpa using hk
      have HK:=aA0 hk;clear hk;generalize hbd:aAk p.vars[i] g 0=B at *;have HBD:=aA0 hbd;clear hbd;obtain ⟨lo,hi'⟩:=B;dsimp only at hbs HFV
      by_cases hok:lo<=hi'/\hi' - lo+1<=4096
      .have d1:decide (hi' < lo)=false:=by simp;omega
       have d2:decide (4096<hi' - lo+1)=false:=by simp;omega
       have HN:=aA0 (aAb hlt HJ.out (by rw [HFV.out];simp;omega))
       go_wp2_with (go_at_call 103;refine (aIi p.vars[i] _ g 0 _ (HGV.out _ (aA1 HW2)) HNX.out HGO.out hpos HGL.out).mono ?_;rintro e w' ⟨rfl,hb⟩;rw [HBD.out];replace HW2:=HW2.trans hb;clear hb)
       go_roundg (p.vars.length-(i+1))
       case rel=>exact ⟨i+1,by omega,rfl,by go_num,HN,HW2⟩
       case measure=>omega
      .rw [aAo hlt (by rw [HFV.out,decide_eq_false];have:=HK.out;omega),if_pos rfl] at HF
       by_cases d1:hi' < lo
       .have d1:decide (hi' < lo)=true:=by simpa using d1
        clear hok
        go_wp2_with (go_at_call 103;refine (aIi p.vars[i] _ g 0 _ (HGV.out _ (aA1 HW2)) HNX.out HGO.out hpos HGL.out).mono ?_;rintro e w' ⟨rfl,hb⟩;rw [HBD.out];replace HW2:=HW2.trans hb;clear hb)
        go_ret;exact ⟨aA5 HF.out.symm,aA1 HW2⟩
       .have d2:decide (4096<hi' - lo+1)=true:=by simp;omega
        have d1:decide (hi' < lo)=false:=by simpa using d1
        clear hok
        go_wp2_with (go_at_call 103;refine (aIi p.vars[i] _ g 0 _ (HGV.out _ (aA1 HW2)) HNX.out HGO.out hpos HGL.out).mono ?_;rintro e w' ⟨rfl,hb⟩;rw [HBD.out];replace HW2:=HW2.trans hb;clear hb)
        go_ret;exact ⟨aA5 HF.out.symm,aA1 HW2⟩
     .have hkb:(p.vars[i].kind != 1)=true:=by simpa using hk
      have HN:=aA0 (aAb hlt HJ.out (by rw [HFV.out];simp [hk]))
      go_wp2_with fail
      go_roundg (p.vars.length-(i+1))
      case rel=>exact ⟨i+1,by omega,rfl,by go_num,HN,HW2⟩
      case measure=>omega
    .have hd0:decide (i<p.vars.length)=false:=by simpa using hlt
     rw [aAq (by omega) HJ.out,if_neg (by decide)] at HF
     go_wp2_with fail
     go_ret;exact ⟨aA5 HF.out.symm,aA1 HW⟩
 .have hcb:decide (aBq p=0)=false:=by simpa using hc
  rw [if_pos hc] at HF;have HCB:=aA0 hcb;clear hc hcb;go_enter func81,ntmps81
  go_wp2_with (go_at_call 101;refine (aI4 _ p _ (HPV.out _ (aA1 HW)) HL.out).mono ?_;rintro e w' ⟨rfl,hb⟩;rw [HCB.out];replace HW:=HW.trans hb;clear hb)
  go_ret;exact ⟨aA5 HF.out.symm,aA1 HW⟩
theorem aJl (v:Value) (p:Prg) (v2:Value) (g:Graph) (w:World) (h:aEm w v p) (h2:aAn w v2 g) (hL:aAw p=true) (hG:aB3 g=true) :
  Calls prog 90 #[v,v2] w fun e w'=>e = .returned (.int .i64 (aHo p g))/\Bel w w':=by
 have HPV:=aA0 (fun w' (k:Bel w w')=>h.keep k);have HGV:=aA0 (fun w' (k:Bel w w')=>h2.keep k);obtain ⟨A,k,A2,k2,rfl,hV,_,_,_,_,_⟩:=h;obtain ⟨A3,k3,A4,k4,rfl,_,_,_,_,_,_⟩:=h2;have HV:=aA0 (fun w' (k:Bel w w')=>aHs.keep hV k);clear hV;have HL:=aA0 hL;have HGL:=aA0 hG;clear hL hG;have HW:=Bel.refl ((w.alloc (.cells #[.string p.name,.slice A p.vars.length k,.slice A2 p.rules.length k2] 25)).alloc (.cells #[.slice A3 g.ids.length k3,.slice A4 g.ports.length k4] 29));have HF:Hid (aHo p g=if aBq p≠0 then 8 else if aEa g=false then 1 else if p.vars.all (aH2 g)=false then 9 else 0):=rfl
 by_cases hc:aBq p=0
 .have hcb:decide (aBq p=0)=true:=by simpa using hc
  rw [if_neg (by simpa using hc)] at HF
  have HCN:=aA0 (aBi hc);have HCB:=aA0 hcb;clear hc hcb;have hn6:=HCN.out.2.2.1;cases hg:aEa g with
  | false =>
   rw [hg,if_pos rfl] at HF;go_enter func90,ntmps90
   go_wp2_with (first
    | (go_at_call 114;refine (aFq _ p _ (HPV.out _ (aA1 HW)) HL.out).mono ?_;rintro e w' ⟨rfl,hb⟩;rw [HCB.out];replace HW:=HW.trans hb;clear hb;obtain ⟨p0,p1,p2,g0,g1,gsz⟩:=aAi HW)
    | (go_at_call 72;refine (aDc _ g _ (HGV.out _ (aA1 HW)) HGL.out).mono ?_;rintro e w' ⟨rfl,hb⟩;rw [hg];replace HW:=HW.trans hb;clear hb))
   go_ret;exact ⟨aA5 HF.out.symm,aA1 HW⟩
  | true =>
   rw [hg,if_neg (by decide)] at HF
   have HGG:=aA0 hg;have HGO:=aA0 ((aEe g).1 hg);clear hg;go_enter func90,ntmps90
   go_wp2_with (first
    | (go_at_call 114;refine (aFq _ p _ (HPV.out _ (aA1 HW)) HL.out).mono ?_;rintro e w' ⟨rfl,hb⟩;rw [HCB.out];replace HW:=HW.trans hb;clear hb;obtain ⟨p0,p1,p2,g0,g1,gsz⟩:=aAi HW)
    | (go_at_call 72;refine (aDc _ g _ (HGV.out _ (aA1 HW)) HGL.out).mono ?_;rintro e w' ⟨rfl,hb⟩;rw [HGG.out];replace HW:=HW.trans hb;clear hb p0 p1 p2 g0 g1 gsz;obtain ⟨p0,p1,p2,g0,g1,gsz⟩:=aAi HW))
   clear p0 p1 p2 g0 g1 gsz
   go_loopg [5,6,7] p.vars.length (fun m z _y _u wr=>∃ j:Nat,j<=p.vars.length/\m=p.vars.length-j/\z = .int .i64 j/\Hid ((p.vars.take j).all (aH2 g)=true)/\Bel ((w.alloc (.cells #[.string p.name,.slice A p.vars.length k,.slice A2 p.rules.length k2] 25)).alloc (.cells #[.slice A3 g.ids.length k3,.slice A4 g.ports.length k4] 29)) wr)
   case atStart=>exact ⟨0,by omega,rfl,rfl,rfl,HW⟩
   case round =>
    clear HW;obtain ⟨i,hi,rfl,rfl,HJ,HW⟩:=hrel;obtain ⟨p0,p1,p2,g0,g1,gsz⟩:=aAi HW
    by_cases hlt:i<p.vars.length
    .have hd0:decide (i<p.vars.length)=true:=by simpa using hlt
     have HNX:=aA0 (List.all_eq_true.1 HCN.out.1 _ (List.getElem_mem hlt));have hpos:0<g.ports.length:=HGO.out.pos;have hbs:=aHw HNX.out HGO.out hpos;have HFV:Hid (aH2 g p.vars[i]=decide (p.vars[i].kind≠1∨((aAk p.vars[i] g 0).1<=(aAk p.vars[i] g 0).2/\(aAk p.vars[i] g 0).2-(aAk p.vars[i] g 0).1+1<=4096))):=rfl;generalize hbd:aAk p.vars[i] g 0=B at *;have HBD:=aA0 hbd;clear hbd;obtain ⟨lo,hi'⟩:=B;dsimp only at hbs HFV
     go_wp2_with fail
     refine (aJy _ p _ g 0 i _ (HPV.out _ (aA1 HW)) (HGV.out _ (aA1 HW)) hlt HNX.out HGO.out hpos HGL.out).mono ?_
     rintro e w' ⟨rfl,hb⟩;rw [HBD.out];replace HW:=HW.trans hb;clear hb p0 p1 p2 g0 g1 gsz;obtain ⟨p0,p1,p2,g0,g1,gsz⟩:=aAi HW;obtain ⟨b,o,rfl,hb,c0,c1,c2,c3,c4,c5⟩:=(HV.out _ (aA1 HW)).at_ i hlt;dsimp only
     by_cases hk:p.vars[i].kind=1
     .have hkb:(p.vars[i].kind==1)=true:=by simpa using hk
      have HK:=aA0 hk;clear hk
      by_cases hok:lo<=hi'/\hi' - lo+1<=4096
      .have d1:inB (hi' - lo) 0 4095=true:=aDm (by omega) (by omega)
       have HN:=aA0 (aAb hlt HJ.out (by rw [HFV.out];simp;omega))
       go_wp2_with (go_at_call 92;refine (aCk _ _ _ _).mono ?_;rintro e w' ⟨rfl,rfl⟩)
       go_roundg (p.vars.length-(i+1))
       case rel=>exact ⟨i+1,by omega,rfl,by go_num,HN,HW⟩
       case measure=>omega
      .rw [aAo hlt (by rw [HFV.out,decide_eq_false];have:=HK.out;omega),if_pos rfl] at HF
       have d1:inB (hi' - lo) 0 4095=false:=aHz (by omega)
       clear hok
       go_wp2_with (go_at_call 92;refine (aCk _ _ _ _).mono ?_;rintro e w' ⟨rfl,rfl⟩)
       go_ret;exact ⟨aA5 HF.out.symm,aA1 HW⟩
     .have hkb:(p.vars[i].kind==1)=false:=by simpa using hk
      have HN:=aA0 (aAb hlt HJ.out (by rw [HFV.out];simp [hk]))
      go_wp2_with fail
      go_roundg (p.vars.length-(i+1))
      case rel=>exact ⟨i+1,by omega,rfl,by go_num,HN,HW⟩
      case measure=>omega
    .have hd0:decide (i<p.vars.length)=false:=by simpa using hlt
     rw [aAq (by omega) HJ.out,if_neg (by decide)] at HF
     go_wp2_with fail
     go_ret;exact ⟨aA5 HF.out.symm,aA1 HW⟩
 .have hcb:decide (aBq p=0)=false:=by simpa using hc
  rw [if_pos hc] at HF;have HCB:=aA0 hcb;clear hc hcb;go_enter func90,ntmps90
  go_wp2_with (go_at_call 114;refine (aFq _ p _ (HPV.out _ (aA1 HW)) HL.out).mono ?_;rintro e w' ⟨rfl,hb⟩;rw [HCB.out];replace HW:=HW.trans hb;clear hb)
  go_ret;exact ⟨aA5 HF.out.symm,aA1 HW⟩
def Fr (g:Nat) (a b:World):Prop:=a.heap.size<=b.heap.size/\∀ k,k<a.heap.size->k≠g->b.heap[k]?=a.heap[k]?
theorem Fr.refl (g:Nat) (a:World):Fr g a a:=⟨Nat.le_refl _,fun _ _ _=>rfl⟩
theorem Fr.trans {g:Nat} {a b c:World} (h:Fr g a b) (k:Fr g b c):Fr g a c:=⟨Nat.le_trans h.1 k.1,fun i hi hg=>(k.2 i (Nat.lt_of_lt_of_le hi h.1) hg).trans (h.2 i hi hg)⟩
theorem Fr.of_bel {g:Nat} {a b:World} (h:Bel a b):Fr g a b:=⟨h.size,fun k hk _=>h.block k hk⟩
theorem Fr.alloc {g:Nat} {a b:World} (h:Fr g a b) (o:Obj):Fr g a (b.alloc o):=h.trans (Fr.of_bel ((Bel.refl b).alloc o))
theorem Fr.drew {g:Nat} {a b:World} (h:Fr g a b):Fr g a b.drew:=h
theorem Fr.drewN {g:Nat} {a b:World} (h:Fr g a b) (n:Nat):Fr g a (b.drewN n):=h
theorem Fr.set {g:Nat} {a b:World} (h:Fr g a b) (o:Nat) (v:Value):Fr g a (b.setCell ⟨g,o,none⟩ v) :=
 h.trans ⟨by simp,fun k hk hg=>Below.heap_setCell _ _ _ _ hg⟩
theorem Fr.cell {g:Nat} {a b:World} (h:Fr g a b) {k o:Nat} (hk:k<a.heap.size) (hg:k≠g):b.cell? ⟨k,o,none⟩=a.cell? ⟨k,o,none⟩:=by
 unfold World.cell?;rw [h.2 k hk hg]
theorem Fr.newer {g g':Nat} {a b c:World} (h:Fr g a b) (hg:a.heap.size<=g') (k:Fr g' b c):Fr g a c :=
 ⟨Nat.le_trans h.1 k.1,fun i hi hne=>(k.2 i (Nat.lt_of_lt_of_le hi h.1) (by omega)).trans (h.2 i hi hne)⟩
def aMc (w:World) (b o:Nat) (x:Int × Int):Prop:=w.cell? ⟨b,o,none⟩=some (.int .i64 x.1)/\w.cell? ⟨b,o+1,none⟩=some (.int .i64 x.2)
theorem aMc.keeps:aLv aMc:=fun _ _ _ _ _ k hb h=>⟨(k.cell hb).trans h.1,(k.cell hb).trans h.2⟩
def aL5:=aAf 2 aMc
def aOi:=aAf 1 (aIr 2 aMc)
theorem aOi.keep {w w':World} {A:Option Addr} {n:Nat} {xs:List (List (Int × Int))} (h:aOi w A n xs) (k:Bel w w'):aOi w' A n xs:=aAf.keep (aIr.keeps aMc.keeps) h k
theorem aL5.keep {w w':World} {A:Option Addr} {n:Nat} {xs:List (Int × Int)} (h:aL5 w A n xs) (k:Bel w w'):aL5 w' A n xs:=aAf.keep aMc.keeps h k
theorem aOi.at_ {w:World} {A:Option Addr} {n:Nat} {xs:List (List (Int × Int))} (h:aOi w A n xs) (k:Nat) (hk:k<xs.length) :
  ∃ b o R c,A=some ⟨b,o,none⟩/\b<w.heap.size/\w.cell? ⟨b,o+k,none⟩=some (.slice R xs[k].length c)/\aL5 w R xs[k].length xs[k]/\xs[k].length<=c/\c<=maxLen:=RowsAt.at_ h k hk
theorem aL5.at_ {w:World} {A:Option Addr} {n:Nat} {xs:List (Int × Int)} (h:aL5 w A n xs) (k:Nat) (hk:k<xs.length) :
  ∃ b o,A=some ⟨b,o,none⟩/\b<w.heap.size/\w.cell? ⟨b,o+k*2,none⟩=some (.int .i64 xs[k].1)/\w.cell? ⟨b,o+k*2+1,none⟩=some (.int .i64 xs[k].2):=aAf.at_ h k hk
def aIu (w:World) (v:Value) (t:List (List (Int × Int))):Prop:=∃ A c,v = .slice A t.length c/\aOi w A t.length t/\t.length<=c/\c<=maxLen
theorem aIu.keep {w w':World} {v:Value} {t:List (List (Int × Int))} (h:aIu w v t) (k:Bel w w'):aIu w' v t:=by
 obtain ⟨A,c,e,h1,h2⟩:=h;exact ⟨A,c,e,h1.keep k,h2⟩
def aIo (p:Prg) (g:Graph) (v:Nat):List (Int × Int):=p.vars.map fun x=>aAk x g v
def aAz (p:Prg) (g:Graph):List (List (Int × Int)):=(List.range g.ids.length).map (aIo p g)
def aYj (t:List (List (Int × Int))) (w:World) (e:Ending) (w':World):Prop:=∃ v,e = .returned v/\aIu w' v t/\Bel w w'
def aJs (N:Nat) (w:World) (v:Value) (t:List (List (Int × Int))):Prop:=∀ W,aAv N w W->aIu W v t
theorem aJs.keep {N:Nat} {w w':World} {v:Value} {t:List (List (Int × Int))} (h:aJs N w v t) (k:Bel w w'):aJs N w' v t:=fun W hW=>h W (hW.back k)
theorem aJs.low {N M:Nat} {w:World} {v:Value} {t:List (List (Int × Int))} (h:aJs N w v t) (hM:M<=N):aJs M w v t:=fun W hW=>h W (hW.up hM)
def aWc (t:List (List (Int × Int))) (w:World) (e:Ending) (w':World):Prop:=∃ v,e = .returned v/\aJs w.heap.size w' v t/\Bel w w'
def aM0 (w:World) (N m gb v:Nat) (hs:List Value) (t:List (List (Int × Int))):Prop :=
 ∀ u,u<v->∃ gu,hs[u]?=some (.slice (some ⟨gu,0,none⟩) m m)/\gu≠gb/\gu<w.heap.size/\N<=gu/\∀ x i,(t.getD u [])[i]?=some x->aMc w gu (i*2) x
theorem aM0.kept {w w':World} {N m gb v:Nat} {hs:List Value} {t:List (List (Int × Int))} (h:aM0 w N m gb v hs t) (hf:Fr gb w w'):aM0 w' N m gb v hs t:=fun u hu=>by
 obtain ⟨gu,h1,h2,h3,h5,h4⟩:=h u hu;exact ⟨gu,h1,h2,Nat.lt_of_lt_of_le h3 hf.1,h5,fun x i hx=>⟨(hf.cell h3 h2).trans (h4 x i hx).1,(hf.cell h3 h2).trans (h4 x i hx).2⟩⟩
theorem aU9 {w w':World} {base:Nat} {e:TypeId} {size gb n c g:Nat} {xs:List Value} (h:w.ownsRow base e size (.slice (some ⟨gb,0,none⟩) n c) n xs) (hf:Fr g w w') (hne:gb≠g):w'.ownsRow base e size (.slice (some ⟨gb,0,none⟩) n c) n xs:=by
 refine ⟨h.1,?_⟩
 rcases h.2 with ⟨hv,_⟩ | ⟨g',cap,cur,hv,hb,hg,hr⟩
 .cases hv
 .right
  refine ⟨g',cap,cur,hv,hb,?_,hr⟩
  injection hv with hA;injection hA with hA;injection hA with hA;subst hA
  rw [hf.2 gb (lt_of_block hg) hne];exact hg
theorem aGm {w:World} {base:Nat} {e:TypeId} {g n c:Nat} {xs:List Value} (h:w.ownsRow base e 1 (.slice (some ⟨g,0,none⟩) n c) n xs) (j:Nat) (hj:j<xs.length):w.cell? ⟨g,j,none⟩=some xs[j]:=by
 obtain ⟨g',e1,_,_,h1,_⟩:=aCn h (List.getElem?_eq_getElem hj);obtain rfl:g=g':=by simpa using e1
 exact h1
def aKq (l:List Term) (k:Nat):List Term:=l.take k++List.replicate (l.length-k) ⟨0,0⟩
theorem aV3 (l:List Term):aKq l 0=List.replicate l.length ⟨0,0⟩:=by simp [aKq]
theorem aV1 (l:List Term) (k:Nat) (h:l.length<=k):aKq l k=l:=by simp [aKq,List.take_of_length_le h,show l.length-k=0 by omega]
theorem aQv (l:List Term) (k:Nat):(aKq l k).length=l.length:=by simp [aKq];omega
theorem aWw (l:List Term) (k:Nat) (h:k<l.length):(aKq l k)[k]?=some ⟨0,0⟩:=by
 unfold aKq;rw [List.getElem?_append_right (by simp;omega)]
 rw [List.length_take,Nat.min_eq_left (Nat.le_of_lt h),Nat.sub_self,List.getElem?_replicate,if_pos (by omega)]
theorem aV2 (l:List Term) (k:Nat) (h:k<l.length):(aKq l k).set k l[k]=aKq l (k+1):=by
 unfold aKq;rw [List.set_append_right _ _ (by simp;omega),List.length_take,Nat.min_eq_left (Nat.le_of_lt h),Nat.sub_self,show l.length-k=(l.length-(k+1))+1 by omega,List.replicate_succ,List.set_cons_zero]
 conv=>rhs;rw [List.take_succ_eq_append_getElem h,List.append_assoc]
 rfl
theorem aOf (es:List Term) (k:Nat) (t:Term) (h:k<es.length):((es.flatMap aCg).set (k*2) (.int .i64 t.op)).set (k*2+1) (.int .i64 t.arg)=(es.set k t).flatMap aCg:=by
 induction es generalizing k with
 | nil=>simp at h
 | cons x es ih =>
  cases k with
  | zero=>simp [aCg]
  | succ k =>
   have:=ih k (by simpa using h)
   rw [show (k+1)*2+1=(k*2+1)+1+1 by omega,show (k+1)*2=k*2+1+1 by omega]
   simpa [aCg] using this
theorem aTq (m:Nat):(List.replicate m (⟨0,0⟩:Term)).flatMap aCg=List.replicate (m*2) (.int .i64 0):=by
 induction m with
 | zero=>rfl
 | succ m ih=>rw [List.replicate_succ,List.flatMap_cons,ih,show (m+1)*2=m*2+1+1 by omega,List.replicate_succ,List.replicate_succ];rfl
theorem aXe (m:Nat):(madeCells (Value.agg #[.int .i64 0,.int .i64 0]).cells (m*2)).toList=(List.replicate m (⟨0,0⟩:Term)).flatMap aCg:=by
 rw [aTq,List.eq_replicate_iff];refine ⟨by simp [madeCells],fun b hb=>?_⟩
 simp [madeCells,Value.cells] at hb
 obtain ⟨i,hi,rfl⟩:=hb
 rcases Nat.mod_two_eq_zero_or_one i with h | h <;> simp [h]
theorem aZ4:(prog.info? 147).map (fun i=>(i.zero,i.size,i.bytes))=some (some (.slice none 0 0),1,24):=by kernel_rfl
theorem aXp:(prog.info? 149).map (fun i=>(i.zero,i.size,i.bytes))=some (some (.agg #[.int .i64 0,.int .i64 0]),2,16):=by kernel_rfl
theorem aP4 (v:Value) (p:Prg) (v2:Value) (g:Graph) (w:World) (h:aEm w v p) (h2:aAn w v2 g) (hc:aBq p=0) (hg:GOK g) (hG:aB3 g=true) :
  Calls prog 83 #[v,v2] w (aWc (aAz p g) w):=by
 have HGV:=aA0 (fun w' (k:Bel w w')=>h2.keep k);obtain ⟨A,k,A2,k2,rfl,hV,_,_,_,_,_⟩:=h;obtain ⟨A3,k3,A4,k4,rfl,_,_,_,_,_,_⟩:=h2;have HV:=aA0 (fun w' (k:Bel w w')=>aHs.keep hV k);clear hV;obtain ⟨cn,c1,c6,_⟩:=aBi hc;have HCN:=aA0 cn;have HGO:=aA0 hg;have HGL:=aA0 hG;have hn:g.ids.length<=24:=by rw [hg.ids];exact hg.le
 obtain ⟨i0,hi0,hz0,hz1,hz2⟩:=info_parts aZ4;obtain ⟨j0,hj0,hy0,hy1,hy2⟩:=info_parts aXp
 have HT:Hid (∀ u,u<g.ids.length->(aAz p g).getD u []=aIo p g u):=fun u hu=>by
  unfold aAz;simp [List.getD_eq_getElem?_getD,hu]
 clear cn hc hg hG;go_enter func83,ntmps83
 go_wp2_with (at_make;refine aFv _ rfl 124 (.tmp 11) (.tmp 11) rfl (w.heap.size+1+1) 147 i0 (.slice none 0 0) 1 underlying124 hi0 hz0 hz1 .i64 .i64 g.ids.length rfl rfl (by rw [hz2];omega) (by unfold maxLen;omega) (by simp) ?_;intro gb w1 hown hb;have HW:=hb;rw [aK3 _ rfl] at hown;have HO:=aA0 hown;clear hown hb)
 obtain ⟨hgb1,hgb2⟩:=aBf HO.out;obtain ⟨p0,p1,p2,g0,g1,gsz⟩:=aAi HW;go_wp2;clear p0 p1 p2 g0 g1 gsz
 go_loopg [6,7,8,15] g.ids.length (fun m _x _y _u z wr=>∃ (v:Nat) (hs:List Value),v<=g.ids.length/\m=g.ids.length-v/\z = .int .i64 v/\Hid (wr.ownsRow (w.heap.size+1+1) 147 1 (.slice (some ⟨gb,0,none⟩) g.ids.length g.ids.length) g.ids.length hs)/\Hid (aM0 wr w.heap.size p.vars.length gb v hs (aAz p g))/\Bel ((w.alloc (.cells #[.string p.name,.slice A p.vars.length k,.slice A2 p.rules.length k2] 25)).alloc (.cells #[.slice A3 g.ids.length k3,.slice A4 g.ports.length k4] 29)) wr)
 case atStart=>exact ⟨0,_,by omega,rfl,rfl,HO,fun u hu=>absurd hu (by omega),HW⟩
 case round =>
  clear HO HW hgb2;obtain ⟨wo,rfl⟩:∃ wo:World,wo=wr:=⟨_,rfl⟩;obtain ⟨v,hs,hv,rfl,rfl,HO,HD,HW⟩:=hrel
  by_cases hlt:v<g.ids.length
  .have hd0:decide (v<g.ids.length)=true:=by simpa using hlt
   obtain ⟨p0,p1,p2,g0,g1,gsz⟩:=aAi HW;have hwo:w.heap.size+1<wo.heap.size:=gsz;have hsl:hs.length=g.ids.length:=by have:=HO.out.1;omega
   have hfr0:=Fr.refl gb wo;have hvp:v<g.ports.length:=by rw [<- HGO.out.ids];exact hlt
   obtain ⟨row,hrow⟩:∃ row:List Term,row=(aIo p g v).map (fun x=>(⟨x.1,x.2⟩:Term)):=⟨_,rfl⟩;have hrl:row.length=p.vars.length:=by rw [hrow];simp [aIo]
   have HROW:=aA0 hrow;have HRL:=aA0 hrl;clear hrow hrl
   go_wp2_with (at_make;refine aFv _ rfl 147 (.tmp 22) (.tmp 22) rfl wo.heap.size 149 j0 (.agg #[.int .i64 0,.int .i64 0]) 2 underlying147 hj0 hy0 hy1 .i64 .i64 p.vars.length rfl rfl (by rw [hy2];omega) (by unfold maxLen;omega) (Nat.le_refl _) ?_;intro gr w1 hown hb;rw [aXe] at hown;have HR:=aA0 hown;have HB1:=aA0 hb;have HO1:=aA0 (hb.owns HO.out);have y1:=aGm HO1.out v (by omega);have y2:=HO1.out.frozenAt v;have ygb:=(aBf HO1.out).2;have hgr:=aBf hown;have HW1:=(HW.trans hb).setCell (p:=⟨gb,v,none⟩) (by simp;omega) (.slice (some ⟨gr,0,none⟩) p.vars.length p.vars.length);clear p0 p1 p2 g0 g1 gsz;obtain ⟨p0,p1,p2,g0,g1,gsz⟩:=aAi HW1;clear hown hb)
   have HO2:=aA0 (HO1.out.stored v (.slice (some ⟨gr,0,none⟩) p.vars.length p.vars.length)).1;have hne:gb≠gr:=by have:=(aBf HO.out).2;omega
   have HF1:=((Fr.of_bel (g:=gb) HB1.out).set v (.slice (some ⟨gr,0,none⟩) p.vars.length p.vars.length));have HR2:=aA0 (aU9 HR.out ((Fr.refl gb w1).set v (.slice (some ⟨gr,0,none⟩) p.vars.length p.vars.length)) (Ne.symm hne));have hgr0:=(aBf HR.out).1;clear HO1 HR HB1 y1 y2 ygb hgr p0 p1 p2 g0 g1 gsz hd0;generalize hw2:w1.setCell ⟨gb,v,none⟩ (.slice (some ⟨gr,0,none⟩) p.vars.length p.vars.length)=w2 at *;clear hw2
   go_loopg [7,8,28] p.vars.length (fun m _x _y z ws=>∃ j:Nat,j<=p.vars.length/\m=p.vars.length-j/\z = .int .i64 j/\Hid (ws.ownsRow wo.heap.size 149 2 (.slice (some ⟨gr,0,none⟩) p.vars.length p.vars.length) p.vars.length ((aKq row j).flatMap aCg))/\Hid (ws.ownsRow (w.heap.size+1+1) 147 1 (.slice (some ⟨gb,0,none⟩) g.ids.length g.ids.length) g.ids.length (hs.set v (.slice (some ⟨gr,0,none⟩) p.vars.length p.vars.length)))/\Fr gb wo ws/\Bel ((w.alloc (.cells #[.string p.name,.slice A p.vars.length k,.slice A2 p.rules.length k2] 25)).alloc (.cells #[.slice A3 g.ids.length k3,.slice A4 g.ports.length k4] 29)) ws)
   case atStart =>
    refine ⟨0,by omega,rfl,rfl,?_,HO2,HF1,HW1⟩
    show World.ownsRow _ _ _ _ _ _ _
    rw [aV3,HRL.out];exact HR2.out
   case round =>
    clear HO2 HF1 HW1 HR2 HW;obtain ⟨j,hj,rfl,rfl,HR,HO2,HF,HW⟩:=hrel
    by_cases hlt2:j<p.vars.length
    .have hd0:decide (j<p.vars.length)=true:=by simpa using hlt2
     obtain ⟨p0,p1,p2,g0,g1,gsz⟩:=aAi HW;obtain ⟨b,o,rfl,hb,c0,c1',c2,c3,c4,c5⟩:=(HV.out _ (aA1 HW)).at_ j hlt2;have HNX:=aA0 (List.all_eq_true.1 HCN.out _ (List.getElem_mem hlt2))
     have hrj:row[j]'(by rw [HRL.out];exact hlt2)=⟨(aAk p.vars[j] g v).1,(aAk p.vars[j] g v).2⟩:=by
      have:=HROW.out;subst this;simp [aIo]
     have HRJ:=aA0 hrj;clear hrj
     have hhd:wr.cell? ⟨gb,v,none⟩=some (.slice (some ⟨gr,0,none⟩) p.vars.length p.vars.length):=by
      have:=aGm HO2.out v (by simp;omega)
      simpa using this
     have hgbl:=(aBf HO2.out).2;have hgrl:=(aBf HR.out).2;have HW1:=HW.alloc (.cells #[.string p.vars[j].name,.int .i64 p.vars[j].kind,.int .i64 p.vars[j].lo,.int .i64 p.vars[j].hi,.int .i64 p.vars[j].perNode,.int .i64 p.vars[j].perID] 100);have HG:=(Fr.refl gr (wr.alloc (.cells #[.string p.vars[j].name,.int .i64 p.vars[j].kind,.int .i64 p.vars[j].lo,.int .i64 p.vars[j].hi,.int .i64 p.vars[j].perNode,.int .i64 p.vars[j].perID] 100))).drew;have HR1:=aA0 (HR.out.alloc (.cells #[.string p.vars[j].name,.int .i64 p.vars[j].kind,.int .i64 p.vars[j].lo,.int .i64 p.vars[j].hi,.int .i64 p.vars[j].perNode,.int .i64 p.vars[j].perID] 100)).drew
     have hcell:=aA0 (fun w' (kk:Fr gr (wr.alloc (.cells #[.string p.vars[j].name,.int .i64 p.vars[j].kind,.int .i64 p.vars[j].lo,.int .i64 p.vars[j].hi,.int .i64 p.vars[j].perNode,.int .i64 p.vars[j].perID] 100)) w')=>by
      have hB:=(Bel.refl wr).alloc (.cells #[.string p.vars[j].name,.int .i64 p.vars[j].kind,.int .i64 p.vars[j].lo,.int .i64 p.vars[j].hi,.int .i64 p.vars[j].perNode,.int .i64 p.vars[j].perID] 100);have hbx:=Blk.new wr #[.string p.vars[j].name,.int .i64 p.vars[j].kind,.int .i64 p.vars[j].lo,.int .i64 p.vars[j].hi,.int .i64 p.vars[j].perNode,.int .i64 p.vars[j].perID] 100;have hsz:=kk.1;simp only [World.size_alloc] at hsz
      have hn1:wr.heap.size≠gr:=by omega
      have hn2:w.heap.size+1≠gr:=by omega
      exact show w'.cell? ⟨gb,v,none⟩=some (.slice (some ⟨gr,0,none⟩) p.vars.length p.vars.length)/\w'.cell? ⟨wr.heap.size,0,none⟩=some (.string p.vars[j].name)/\w'.cell? ⟨wr.heap.size,1,none⟩=some (.int .i64 p.vars[j].kind)/\w'.cell? ⟨wr.heap.size,2,none⟩=some (.int .i64 p.vars[j].lo)/\w'.cell? ⟨wr.heap.size,3,none⟩=some (.int .i64 p.vars[j].hi)/\w'.cell? ⟨wr.heap.size,4,none⟩=some (.int .i64 p.vars[j].perNode)/\w'.cell? ⟨wr.heap.size,5,none⟩=some (.int .i64 p.vars[j].perID)/\w'.cell? ⟨w.heap.size+1,0,none⟩=some (.slice A3 g.ids.length k3)/\w'.cell? ⟨w.heap.size+1,1,none⟩=some (.slice A4 g.ports.length k4)/\gb<w'.heap.size/\wr.heap.size<w'.heap.size/\w.heap.size+1<w'.heap.size/\gr<w'.heap.size from
       ⟨(kk.cell (by simp;omega) hne).trans ((hB.cell hgbl).trans hhd),(kk.cell (by simp) hn1).trans (hbx.cell 0 rfl),(kk.cell (by simp) hn1).trans (hbx.cell 1 rfl),(kk.cell (by simp) hn1).trans (hbx.cell 2 rfl),(kk.cell (by simp) hn1).trans (hbx.cell 3 rfl),(kk.cell (by simp) hn1).trans (hbx.cell 4 rfl),(kk.cell (by simp) hn1).trans (hbx.cell 5 rfl),(kk.cell (by simp;omega) hn2).trans ((hB.cell (by omega)).trans g0),(kk.cell (by simp;omega) hn2).trans ((hB.cell (by omega)).trans g1),by omega,by omega,by omega,by omega⟩)
     have hfg:=aWw row j (by rw [HRL.out];exact hlt2)
     obtain ⟨f1,f2⟩:=aIf _ j _ hfg;have HF1':=aA0 f1;have HF2':=aA0 f2;have hjm:j*2<p.vars.length*2:=by omega
     have hdv:decide (v<g.ids.length)=true:=by simpa using hlt
     clear hfg f1 f2
     go_wp2_with fail
     replace HW1:=HW1.drew
     go_region_held3 (fun w'=>w'.cell? ⟨gb,v,none⟩=some (.slice (some ⟨gr,0,none⟩) p.vars.length p.vars.length)/\w'.cell? ⟨wr.heap.size,0,none⟩=some (.string p.vars[j].name)/\w'.cell? ⟨wr.heap.size,1,none⟩=some (.int .i64 p.vars[j].kind)/\w'.cell? ⟨wr.heap.size,2,none⟩=some (.int .i64 p.vars[j].lo)/\w'.cell? ⟨wr.heap.size,3,none⟩=some (.int .i64 p.vars[j].hi)/\w'.cell? ⟨wr.heap.size,4,none⟩=some (.int .i64 p.vars[j].perNode)/\w'.cell? ⟨wr.heap.size,5,none⟩=some (.int .i64 p.vars[j].perID)/\w'.cell? ⟨w.heap.size+1,0,none⟩=some (.slice A3 g.ids.length k3)/\w'.cell? ⟨w.heap.size+1,1,none⟩=some (.slice A4 g.ports.length k4)/\gb<w'.heap.size/\wr.heap.size<w'.heap.size/\w.heap.size+1<w'.heap.size/\gr<w'.heap.size)
      (first | exact hcell.out _ HG | exact hcell.out _ (HG.set _ _) | exact hcell.out _ ((HG.set _ _).set _ _))
      (first | (go_simp;go_at_call 103;refine (aIi p.vars[j] _ g v _ (HGV.out _ (aA1 HW1)) HNX.out HGO.out hvp HGL.out).mono ?_;rintro e w4 ⟨rfl,hbb⟩;replace HW1:=HW1.trans hbb;replace HG:=HG.trans (Fr.of_bel hbb);replace HR1:=aA0 (hbb.owns HR1.out);clear hbb;have y1:=(aCn HR1.out HF1'.out);have y2:=(aCn HR1.out HF2'.out);obtain ⟨q1,e1,_,_,y1,z1⟩:=y1;obtain ⟨q2,e2,_,_,y2,z2⟩:=y2;obtain rfl:gr=q1:=(by simpa using e1);obtain rfl:gr=q2:=(by simpa using e2);clear e1 e2))
     go_wp2_with fail
     go_roundg (p.vars.length-(j+1))
     case rel =>
      have hst:=((HR1.out.stored (j*2) (.int .i64 (aAk p.vars[j] g v).1)).1.stored (j*2+1) (.int .i64 (aAk p.vars[j] g v).2)).1;have e2:=aOf (aKq row j) j (row[j]'(by rw [HRL.out];exact hlt2)) (by rw [aQv,HRL.out];exact hlt2)
      rw [aV2 _ _ (by rw [HRL.out];exact hlt2),HRJ.out] at e2
      rw [e2] at hst;refine ⟨j+1,by omega,rfl,by go_num,hst,?_,?_,?_⟩
      .exact aU9 (HO2.out.alloc _) ((HG.set _ _).set _ _) hne
      .exact (HF.alloc _).newer hgr0 ((HG.set _ _).set _ _)
      .exact (HW1.setCell (by simp;omega) _).setCell (by simp;omega) _
     case measure=>omega
    .have hd0:decide (j<p.vars.length)=false:=by simpa using hlt2
     obtain rfl:j=p.vars.length:=by omega
     go_wp2_with fail
     go_roundg (g.ids.length-(v+1))
     case rel =>
      refine ⟨v+1,_,by omega,rfl,by go_num,HO2,?_,HW⟩
      intro u hu
      rcases Nat.lt_or_ge u v with h | h
      .obtain ⟨gu,h1,h2,h3,h4⟩:=(HD.out.kept HF) u h
       exact ⟨gu,by rw [List.getElem?_set_ne (by omega)];exact h1,h2,h3,h4⟩
      .obtain rfl:u=v:=by omega
       refine ⟨gr,by rw [List.getElem?_set_self (by omega)],Ne.symm hne,(aBf HR.out).2,by have:=(aBf HR.out).1;omega,fun x i hx=>?_⟩
       have hR:=HR.out;rw [aV1 _ _ (by rw [HRL.out];exact Nat.le_refl _)] at hR
       rw [HT.out _ hlt] at hx;obtain ⟨f1,f2⟩:=aIf row i ⟨x.1,x.2⟩ (by rw [HROW.out,List.getElem?_map,hx];rfl)
       obtain ⟨q1,e1,_,_,y1,_⟩:=aCn hR f1;obtain ⟨q2,e2,_,_,y2,_⟩:=aCn hR f2;obtain rfl:gr=q1:=by simpa using e1
       obtain rfl:gr=q2:=by simpa using e2
       exact ⟨y1,y2⟩
     case measure=>omega
  .have hd0:decide (v<g.ids.length)=false:=by simpa using hlt
   go_wp2_with fail
   go_ret;have hl:(aAz p g).length=g.ids.length:=by simp [aAz]
   refine ⟨_,rfl,fun W hW=>⟨some ⟨gb,0,none⟩,g.ids.length,by rw [hl];rfl,⟨rfl,fun u x hx=>?_⟩,by omega,by unfold maxLen;omega⟩,aA1 HW⟩
   have hu:u<g.ids.length:=by have:=(List.getElem?_eq_some_iff.1 hx).1;omega
   obtain ⟨gu,h1,h2,h3,h5,h4⟩:=HD.out u (by omega)
   obtain ⟨g',e1,_,hlt',hcell,_⟩:=aCn HO.out h1;obtain rfl:gb=g':=by simpa using e1
   have hrow:(aAz p g).getD u []=x:=by rw [List.getD_eq_getElem?_getD,hx];rfl
   have hxl:x.length=p.vars.length:=by rw [<- hrow,HT.out u hu];simp [aIo]
   refine ⟨gb,0,rfl,Nat.lt_of_lt_of_le hlt' hW.1,some ⟨gu,0,none⟩,p.vars.length,?_,⟨rfl,fun i y hy=>⟨gu,0,rfl,Nat.lt_of_lt_of_le h3 hW.1,?_⟩⟩,by omega,by unfold maxLen;omega⟩
   .rw [hxl,Nat.zero_add,Nat.mul_one,hW.cell (by omega) hlt'];exact hcell
   .have:=h4 y i (by rw [hrow];exact hy)
    rw [Nat.zero_add];exact ⟨(hW.cell h5 h3).trans this.1,(hW.cell h5 h3).trans this.2⟩
theorem aS4 (v:Value) (p:Prg) (v2:Value) (g:Graph) (w:World) (h:aEm w v p) (h2:aAn w v2 g) (hc:aBq p=0) (hg:GOK g) (hG:aB3 g=true) :
  Calls prog 83 #[v,v2] w (aYj (aAz p g) w):=(aP4 v p v2 g w h h2 hc hg hG).mono fun _ _ ⟨v,h1,h2,h3⟩=>⟨v,h1,h2 _ (aAv.refl _ _),h3⟩
def aEb (row:List (Int × Int)) (s:List Int):Bool:=decide (s.length=row.length)&&(List.range s.length).all fun i=>decide ((row.getD i (0,0)).1<=s.getD i 0/\s.getD i 0<=(row.getD i (0,0)).2)
def aGx (t:List (List (Int × Int))) (c:aA7):Bool:=decide (c.length=t.length)&&(List.range c.length).all fun v=>aEb (t.getD v []) (c.getD v [])
def aCv (p:Prg) (g:Graph) (c:aA7):Int:=if aHo p g≠0 then aHo p g else if aGx (aAz p g) c=false then 10 else 0
theorem aC7 {row:List (Int × Int)} {s:List Int}:aEb row s=true↔s.length=row.length/\∀ i,(h1:i<s.length)->(h2:i<row.length)->row[i].1<=s[i]/\s[i]<=row[i].2:=by
 unfold aEb;simp only [Bool.and_eq_true,decide_eq_true_eq,List.all_eq_true,List.mem_range]
 constructor
 .rintro ⟨h1,h2⟩
  refine ⟨h1,fun i a b=>?_⟩
  have:=h2 i a
  rwa [aAa a,aAa b] at this
 .rintro ⟨h1,h2⟩
  refine ⟨h1,fun i a=>?_⟩
  have:=h2 i a (by omega)
  rwa [aAa a,aAa (by omega)]
theorem aCa {t:List (List (Int × Int))} {c:aA7}:aGx t c=true↔c.length=t.length/\∀ v,(h1:v<c.length)->(h2:v<t.length)->aEb t[v] c[v]=true:=by
 unfold aGx;simp only [Bool.and_eq_true,decide_eq_true_eq,List.all_eq_true,List.mem_range]
 constructor
 .rintro ⟨h1,h2⟩
  refine ⟨h1,fun i a b=>?_⟩
  have:=h2 i a
  rwa [aAa a,aAa b] at this
 .rintro ⟨h1,h2⟩
  refine ⟨h1,fun i a=>?_⟩
  have:=h2 i a (by omega)
  rwa [aAa a,aAa (by omega)]
theorem aLr {row:List (Int × Int)} {s:List Int} (h:¬ (s.length=row.length/\∀ i,(h1:i<s.length)->(h2:i<row.length)->row[i].1<=s[i]/\s[i]<=row[i].2)):aEb row s=false:=by
 rw [Bool.eq_false_iff];intro hb;exact h (aC7.1 hb)
theorem aFg {t:List (List (Int × Int))} {c:aA7} (h:¬ (c.length=t.length/\∀ v,(h1:v<c.length)->(h2:v<t.length)->aEb t[v] c[v]=true)):aGx t c=false:=by
 rw [Bool.eq_false_iff];intro hb;exact h (aCa.1 hb)
theorem aPx {a b:Nat} (h:a≠b):(a != b)=true/\((a:Int) != (b:Int))=true:=⟨by simpa using h,by simp;omega⟩
theorem aBx {c:aA7} (h:aBl c=true):c.length<=30/\∀ r∈c,r.length<=10:=by
 unfold aBl at h;simp at h
 exact h
theorem aS3 (A:Option Addr) (c:Nat) (row:List (Int × Int)) (B:Option Addr) (c2:Nat) (s:List Int) (w:World) (h1:aL5 w A row.length row) (h2:aBr w B s.length s) (hl:s.length<=1000) :
  Calls prog 104 #[.slice A row.length c,.slice B s.length c2] w fun e w'=>e = .returned (.bool (aEb row s))/\w=w':=by
 have H1:=aA0 h1;clear h1;have H2:=aA0 h2;clear h2
 by_cases hn:s.length=row.length
 .have HN:=aA0 hn
  rw [<- hn] at H1 ⊢;clear hn;have hb:(s.length != s.length)=false:=by simp
  go_enter func104,ntmps104;go_wp2;clear hb
  go_loopg [5,6,14] s.length (fun m _x _y z wr=>∃ j:Nat,j<=s.length/\m=s.length-j/\z = .int .i64 j/\Hid (∀ i,i<j->(h1:i<s.length)->(h2:i<row.length)->row[i].1<=s[i]/\s[i]<=row[i].2)/\w=wr)
  case atStart=>exact ⟨0,by omega,rfl,rfl,fun i hi=>absurd hi (by omega),rfl⟩
  case round =>
   obtain ⟨j,hj,rfl,rfl,HJ,rfl⟩:=hrel
   by_cases hlt:j<s.length
   .have hd0:decide (j<s.length)=true:=by simpa using hlt
    have hlt2:j<row.length:=by rw [<- HN.out];exact hlt
    obtain ⟨b,o,rfl,hb,hc⟩:=H2.out.at_ j hlt;obtain ⟨b',o',rfl,hb',k1,k2⟩:=H1.out.at_ j hlt2
    by_cases hr:row[j].1<=s[j]/\s[j]<=row[j].2
    .have d1:decide (s[j]<row[j].1)=false:=by simp;omega
     have d2:decide (row[j].2<s[j])=false:=by simp;omega
     have HR:=aA0 hr;clear hr
     go_wp2_with fail
     go_roundg (s.length-(j+1))
     case rel =>
      refine ⟨j+1,by omega,rfl,by go_num,?_,rfl⟩
      intro i hi a1 a2
      rcases Nat.lt_or_ge i j with h | h
      .exact HJ.out i h a1 a2
      .obtain rfl:i=j:=by omega
       exact HR.out
     case measure=>omega
    .have HF:Hid (aEb row s=false):=aLr fun h=>hr (h.2 j hlt hlt2)
     by_cases h1:s[j]<row[j].1
     .have d1:decide (s[j]<row[j].1)=true:=by simpa using h1
      clear hr
      go_wp2_with fail
      go_ret;exact ⟨aA2 HF.out.symm,rfl⟩
     .have d1:decide (s[j]<row[j].1)=false:=by simpa using h1
      have d2:decide (row[j].2<s[j])=true:=by simp;omega
      clear hr
      go_wp2_with fail
      go_ret;exact ⟨aA2 HF.out.symm,rfl⟩
   .have hd0:decide (j<s.length)=false:=by simpa using hlt
    go_wp2_with fail
    go_ret;refine ⟨aA2 ?_,rfl⟩
    symm
    rw [aC7];exact ⟨HN.out,fun i a b=>HJ.out i (by omega) a b⟩
 .obtain ⟨n1,n2⟩:=aPx hn
  have HF:Hid (aEb row s=false):=aLr fun h=>hn h.1;clear hn;go_enter func104,ntmps104;go_wp2;go_ret;exact ⟨aA2 HF.out.symm,rfl⟩
theorem aK4 (v:Value) (t:List (List (Int × Int))) (v2:Value) (c:aA7) (w:World) (h1:aIu w v t) (h2:aAy w v2 c) (hl:aBl c=true) :
  Calls prog 82 #[v,v2] w fun e w'=>e = .returned (.bool (aGx t c))/\w=w':=by
 obtain ⟨A,k,rfl,hT,_,_⟩:=h1;obtain ⟨B,k2,rfl,hC,_,_⟩:=h2;have H1:=aA0 hT;clear hT;have H2:=aA0 hC;clear hC;obtain ⟨l1,l2⟩:=aBx hl;have HL2:=aA0 l2;clear l2 hl
 by_cases hn:c.length=t.length
 .have HN:=aA0 hn
  rw [<- hn] at H1 ⊢;clear hn;have hb:(c.length != c.length)=false:=by simp
  go_enter func82,ntmps82;go_wp2;clear hb
  go_loopg [5,6,14] c.length (fun m _x _y z wr=>∃ j:Nat,j<=c.length/\m=c.length-j/\z = .int .i64 j/\Hid (∀ i,i<j->(h1:i<c.length)->(h2:i<t.length)->aEb t[i] c[i]=true)/\w=wr)
  case atStart=>exact ⟨0,by omega,rfl,rfl,fun i hi=>absurd hi (by omega),rfl⟩
  case round =>
   obtain ⟨j,hj,rfl,rfl,HJ,rfl⟩:=hrel
   by_cases hlt:j<c.length
   .have hd0:decide (j<c.length)=true:=by simpa using hlt
    have hlt2:j<t.length:=by rw [<- HN.out];exact hlt
    obtain ⟨b,o,R,rc,rfl,hb,hc,hI,_,_⟩:=H2.out.at_ j hlt;obtain ⟨b',o',R',rc',rfl,hb',hc',hP,_,_⟩:=H1.out.at_ j hlt2;have HI:=aA0 hI;have HP:=aA0 hP;have hle:=HL2.out _ (List.getElem_mem hlt);clear hI hP;cases hs:aEb t[j] c[j] with
    | true =>
     have HS:=aA0 hs;clear hs
     go_wp2_with (go_at_call 104;refine (aS3 _ _ t[j] _ _ c[j] _ HP.out HI.out (by omega)).mono ?_;rintro e w' ⟨rfl,rfl⟩;rw [HS.out])
     go_roundg (c.length-(j+1))
     case rel =>
      refine ⟨j+1,by omega,rfl,by go_num,?_,rfl⟩
      intro i hi a1 a2
      rcases Nat.lt_or_ge i j with h | h
      .exact HJ.out i h a1 a2
      .obtain rfl:i=j:=by omega
       exact HS.out
     case measure=>omega
    | false =>
     have HF:Hid (aGx t c=false):=aFg fun h=>by have:=h.2 j hlt hlt2;rw [hs] at this;cases this
     have HS:=aA0 hs;clear hs
     go_wp2_with (go_at_call 104;refine (aS3 _ _ t[j] _ _ c[j] _ HP.out HI.out (by omega)).mono ?_;rintro e w' ⟨rfl,rfl⟩;rw [HS.out])
     go_ret;exact ⟨aA2 HF.out.symm,rfl⟩
   .have hd0:decide (j<c.length)=false:=by simpa using hlt
    go_wp2_with fail
    go_ret;refine ⟨aA2 ?_,rfl⟩
    symm
    rw [aCa];exact ⟨HN.out,fun i a b=>HJ.out i (by omega) a b⟩
 .obtain ⟨n1,n2⟩:=aPx hn
  have HF:Hid (aGx t c=false):=aFg fun h=>hn h.1;clear hn;go_enter func82,ntmps82;go_wp2;go_ret;exact ⟨aA2 HF.out.symm,rfl⟩
theorem aAp {p:Prg} {g:Graph} (h:aHo p g=0):aBq p=0/\GOK g/\p.vars.all (aH2 g)=true:=by
 unfold aHo at h;split at h
 .cases h
 .rename_i h1
  split at h
  .cases h
  .rename_i h2
   split at h
   .cases h
   .rename_i h3
    exact ⟨by simpa using h1,(aEe g).1 (by simpa using h2),by simpa using h3⟩
theorem aG3 (v:Value) (p:Prg) (v2:Value) (g:Graph) (v3:Value) (c:aA7) (w:World) (h:aEm w v p) (h2:aAn w v2 g) (h3:aAy w v3 c) (hL:aAw p=true) (hG:aB3 g=true) (hC:aBl c=true) :
  Calls prog 58 #[v,v2,v3] w fun e w'=>e = .returned (.int .i64 (aCv p g c))/\Bel w w':=by
 have HPV:=aA0 (fun w' (k:Bel w w')=>h.keep k);have HGV:=aA0 (fun w' (k:Bel w w')=>h2.keep k);have HCV:=aA0 (fun w' (k:Bel w w')=>h3.keep k);obtain ⟨A,k,A2,k2,rfl,_,_,_,_,_,_⟩:=h;obtain ⟨A3,k3,A4,k4,rfl,_,_,_,_,_,_⟩:=h2;obtain ⟨A5,k5,rfl,_,_,_⟩:=h3;have HL:=aA0 hL;have HGL:=aA0 hG;have HCL:=aA0 hC;clear hL hG hC;have HW:=Bel.refl ((w.alloc (.cells #[.string p.name,.slice A p.vars.length k,.slice A2 p.rules.length k2] 25)).alloc (.cells #[.slice A3 g.ids.length k3,.slice A4 g.ports.length k4] 29))
 by_cases hf:aHo p g=0
 .obtain ⟨f1,f2,_⟩:=aAp hf
  have HF1:=aA0 f1;have HF2:=aA0 f2;have HFZ:=aA0 hf;have HM:Hid (aCv p g c=if aGx (aAz p g) c=false then 10 else 0):=by show aCv p g c=_;unfold aCv;rw [if_neg (by simpa using hf)]
  clear hf f1 f2;cases hb:aGx (aAz p g) c with
  | true =>
   rw [hb,if_neg (by decide)] at HM
   have HBB:=aA0 hb;clear hb;go_enter func58,ntmps58
   go_wp2_with (first
    | (go_at_call 81;refine (aPn _ p _ g _ (HPV.out _ (aA1 HW)) (HGV.out _ (aA1 HW)) HL.out HGL.out).mono ?_;rintro e w' ⟨rfl,hb⟩;rw [HFZ.out];replace HW:=HW.trans hb;clear hb;obtain ⟨p0,p1,p2,g0,g1,gsz⟩:=aAi HW)
    | (go_at_call 83;refine (aS4 _ p _ g _ (HPV.out _ (aA1 HW)) (HGV.out _ (aA1 HW)) HF1.out HF2.out HGL.out).mono ?_;rintro e w' ⟨tv,rfl,htv,hb⟩;replace HW:=HW.trans hb;have HTV:=aA0 htv;clear hb htv)
    | (go_at_call 82;refine (aK4 _ (aAz p g) _ c _ HTV.out (HCV.out _ (aA1 HW)) HCL.out).mono ?_;rintro e w' ⟨rfl,rfl⟩;rw [HBB.out]))
   go_ret;exact ⟨aA5 HM.out.symm,aA1 HW⟩
  | false =>
   rw [hb,if_pos rfl] at HM;have HBB:=aA0 hb;clear hb;go_enter func58,ntmps58
   go_wp2_with (first
    | (go_at_call 81;refine (aPn _ p _ g _ (HPV.out _ (aA1 HW)) (HGV.out _ (aA1 HW)) HL.out HGL.out).mono ?_;rintro e w' ⟨rfl,hb⟩;rw [HFZ.out];replace HW:=HW.trans hb;clear hb;obtain ⟨p0,p1,p2,g0,g1,gsz⟩:=aAi HW)
    | (go_at_call 83;refine (aS4 _ p _ g _ (HPV.out _ (aA1 HW)) (HGV.out _ (aA1 HW)) HF1.out HF2.out HGL.out).mono ?_;rintro e w' ⟨tv,rfl,htv,hb⟩;replace HW:=HW.trans hb;have HTV:=aA0 htv;clear hb htv)
    | (go_at_call 82;refine (aK4 _ (aAz p g) _ c _ HTV.out (HCV.out _ (aA1 HW)) HCL.out).mono ?_;rintro e w' ⟨rfl,rfl⟩;rw [HBB.out]))
   go_ret;exact ⟨aA5 HM.out.symm,aA1 HW⟩
 .have HM:Hid (aCv p g c=aHo p g):=by show aCv p g c=_;unfold aCv;rw [if_pos hf]
  have hfb:(aHo p g != 0)=true:=by simpa using hf
  go_enter func58,ntmps58
  go_wp2_with (go_at_call 81;refine (aPn _ p _ g _ (HPV.out _ (aA1 HW)) (HGV.out _ (aA1 HW)) HL.out HGL.out).mono ?_;rintro e w' ⟨rfl,hb⟩;replace HW:=HW.trans hb;clear hb)
  go_ret;exact ⟨aA5 HM.out.symm,aA1 HW⟩
end Go.Proofs.YtdcjnhoabbdanaaGreatDoor

