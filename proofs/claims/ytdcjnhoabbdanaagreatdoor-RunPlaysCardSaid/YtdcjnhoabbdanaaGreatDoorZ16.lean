/- Merged. -/
import Derived.Test.YtdcjnhoabbdanaaGreatDoorZ15
set_option linter.unusedSimpArgs false
set_option linter.unnecessarySimpa false
set_option linter.unusedVariables false
set_option maxRecDepth 100000
set_option maxHeartbeats 4000000
open Go.Proofs.Tryz

namespace Go.Proofs.YtdcjnhoabbdanaaGreatDoor
open Go.RowKit
def aE0 (row:List (Int × Int)) (s:List Int):Bool:=decide (s.length=row.length)&&(List.range s.length).all fun i=>decide ((row.getD i (0,0)).1<=s.getD i 0/\s.getD i 0<=(row.getD i (0,0)).2)
def aGj (t:List (List (Int × Int))) (c:aA5):Bool:=decide (c.length=t.length)&&(List.range c.length).all fun v=>aE0 (t.getD v []) (c.getD v [])
def aCx (p:Prg) (g:Graph) (c:aA5):Int:=if aH4 p g≠0 then aH4 p g else if aGj (aAv p g) c=false then 10 else 0
theorem aC3 {row:List (Int × Int)} {s:List Int}:aE0 row s=true↔s.length=row.length/\∀ i,(h1:i<s.length)->(h2:i<row.length)->row[i].1<=s[i]/\s[i]<=row[i].2:=by
 unfold aE0;simp only [Bool.and_eq_true,decide_eq_true_eq,List.all_eq_true,List.mem_range]
 constructor
 .rintro ⟨h1,h2⟩
  refine ⟨h1,fun i a b=>?_⟩
  have:=h2 i a
  rwa [aA6 a,aA6 b] at this
 .rintro ⟨h1,h2⟩
  refine ⟨h1,fun i a=>?_⟩
  have:=h2 i a (by omega)
  rwa [aA6 a,aA6 (by omega)]
theorem aC4 {t:List (List (Int × Int))} {c:aA5}:aGj t c=true↔c.length=t.length/\∀ v,(h1:v<c.length)->(h2:v<t.length)->aE0 t[v] c[v]=true:=by
 unfold aGj;simp only [Bool.and_eq_true,decide_eq_true_eq,List.all_eq_true,List.mem_range]
 constructor
 .rintro ⟨h1,h2⟩
  refine ⟨h1,fun i a b=>?_⟩
  have:=h2 i a
  rwa [aA6 a,aA6 b] at this
 .rintro ⟨h1,h2⟩
  refine ⟨h1,fun i a=>?_⟩
  have:=h2 i a (by omega)
  rwa [aA6 a,aA6 (by omega)]
theorem aL5 {row:List (Int × Int)} {s:List Int} (h:¬ (s.length=row.length/\∀ i,(h1:i<s.length)->(h2:i<row.length)->row[i].1<=s[i]/\s[i]<=row[i].2)):aE0 row s=false:=by
 rw [Bool.eq_false_iff];intro hb;exact h (aC3.1 hb)
theorem aF2 {t:List (List (Int × Int))} {c:aA5} (h:¬ (c.length=t.length/\∀ v,(h1:v<c.length)->(h2:v<t.length)->aE0 t[v] c[v]=true)):aGj t c=false:=by
 rw [Bool.eq_false_iff];intro hb;exact h (aC4.1 hb)
theorem aP4 {a b:Nat} (h:a≠b):(a != b)=true/\((a:Int) != (b:Int))=true:=⟨by simpa using h,by simp;omega⟩
theorem aCj {c:aA5} (h:aBo c=true):c.length<=30/\∀ r∈c,r.length<=10:=by
 unfold aBo at h;simp at h
 exact h
theorem aRe (A:Option Addr) (c:Nat) (row:List (Int × Int)) (B:Option Addr) (c2:Nat) (s:List Int) (w:World) (h1:aKm w A row.length row) (h2:aBk w B s.length s) (hl:s.length<=1000) :
  Calls prog 104 #[.slice A row.length c,.slice B s.length c2] w fun e w'=>e = .returned (.bool (aE0 row s))/\w=w':=by
 have H1:=aA0 h1;clear h1;have H2:=aA0 h2;clear h2
 by_cases hn:s.length=row.length
 .have HN:=aA0 hn
  rw [<- hn] at H1 ⊢;clear hn;have hb:(s.length != s.length)=false:=by simp
  go_enter func104,ntmps104;go_wp2;clear hb
  go_loopg [5,6,14] s.length (fun m _x _y z wr=>∃ j:Nat,j<=s.length/\m=s.length-j/\z = .int .i64 j/\Hid (∀ i,i<j->(h1:i<s.length)->(h2:i<row.length)->row[i].1<=s[i]/\s[i]<=row[i].2)/\w=wr)
  case atStart=>exact ⟨0,by omega,rfl,rfl,fun i hi=>absurd hi (by omega),rfl⟩
  case round =>
   obtain ⟨j,hj,rfl,rfl,HJ,rfl⟩:=hrel
   by_cases hlt:j<s.length
   .have hd0:decide (j<s.length)=true:=by simpa using hlt
    have hlt2:j<row.length:=by rw [<- HN.out];exact hlt
    obtain ⟨b,o,rfl,hb,hc⟩:=H2.out.at_ j hlt;obtain ⟨b',o',rfl,hb',k1,k2⟩:=H1.out.at_ j hlt2
    by_cases hr:row[j].1<=s[j]/\s[j]<=row[j].2
    .have d1:decide (s[j]<row[j].1)=false:=by simp;omega
     have d2:decide (row[j].2<s[j])=false:=by simp;omega
     have HR:=aA0 hr;clear hr
     go_wp2_with fail
     go_roundg (s.length-(j+1))
     case rel =>
      refine ⟨j+1,by omega,rfl,by go_num,?_,rfl⟩
      intro i hi a1 a2
      rcases Nat.lt_or_ge i j with h | h
      .exact HJ.out i h a1 a2
      .obtain rfl:i=j:=by omega
       exact HR.out
     case measure=>omega
    .have HF:Hid (aE0 row s=false):=aL5 fun h=>hr (h.2 j hlt hlt2)
     by_cases h1:s[j]<row[j].1
     .have d1:decide (s[j]<row[j].1)=true:=by simpa using h1
      clear hr
      go_wp2_with fail
      go_ret;exact ⟨aA2 HF.out.symm,rfl⟩
     .have d1:decide (s[j]<row[j].1)=false:=by simpa using h1
      have d2:decide (row[j].2<s[j])=true:=by simp;omega
      clear hr
      go_wp2_with fail
      go_ret;exact ⟨aA2 HF.out.symm,rfl⟩
   .have hd0:decide (j<s.length)=false:=by simpa using hlt
    go_wp2_with fail
    go_ret;refine ⟨aA2 ?_,rfl⟩
    symm
    rw [aC3];exact ⟨HN.out,fun i a b=>HJ.out i (by omega) a b⟩
 .obtain ⟨n1,n2⟩:=aP4 hn
  have HF:Hid (aE0 row s=false):=aL5 fun h=>hn h.1;clear hn;go_enter func104,ntmps104;go_wp2;go_ret;exact ⟨aA2 HF.out.symm,rfl⟩
theorem aJi (v:Value) (t:List (List (Int × Int))) (v2:Value) (c:aA5) (w:World) (h1:aI8 w v t) (h2:aAz w v2 c) (hl:aBo c=true) :
  Calls prog 82 #[v,v2] w fun e w'=>e = .returned (.bool (aGj t c))/\w=w':=by
 obtain ⟨A,k,rfl,hT,_,_⟩:=h1;obtain ⟨B,k2,rfl,hC,_,_⟩:=h2;have H1:=aA0 hT;clear hT;have H2:=aA0 hC;clear hC;obtain ⟨l1,l2⟩:=aCj hl;have HL2:=aA0 l2;clear l2 hl
 by_cases hn:c.length=t.length
 .have HN:=aA0 hn
  rw [<- hn] at H1 ⊢;clear hn;have hb:(c.length != c.length)=false:=by simp
  go_enter func82,ntmps82;go_wp2;clear hb
  go_loopg [5,6,14] c.length (fun m _x _y z wr=>∃ j:Nat,j<=c.length/\m=c.length-j/\z = .int .i64 j/\Hid (∀ i,i<j->(h1:i<c.length)->(h2:i<t.length)->aE0 t[i] c[i]=true)/\w=wr)
  case atStart=>exact ⟨0,by omega,rfl,rfl,fun i hi=>absurd hi (by omega),rfl⟩
  case round =>
   obtain ⟨j,hj,rfl,rfl,HJ,rfl⟩:=hrel
   by_cases hlt:j<c.length
   .have hd0:decide (j<c.length)=true:=by simpa using hlt
    have hlt2:j<t.length:=by rw [<- HN.out];exact hlt
    obtain ⟨b,o,R,rc,rfl,hb,hc,hI,_,_⟩:=H2.out.at_ j hlt;obtain ⟨b',o',R',rc',rfl,hb',hc',hP,_,_⟩:=H1.out.at_ j hlt2;have HI:=aA0 hI;have HP:=aA0 hP;have hle:=HL2.out _ (List.getElem_mem hlt);clear hI hP;cases hs:aE0 t[j] c[j] with
    | true =>
     have HS:=aA0 hs;clear hs
     go_wp2_with (go_at_call 104;refine (aRe _ _ t[j] _ _ c[j] _ HP.out HI.out (by omega)).mono ?_;rintro e w' ⟨rfl,rfl⟩;rw [HS.out])
     go_roundg (c.length-(j+1))
     case rel =>
      refine ⟨j+1,by omega,rfl,by go_num,?_,rfl⟩
      intro i hi a1 a2
      rcases Nat.lt_or_ge i j with h | h
      .exact HJ.out i h a1 a2
      .obtain rfl:i=j:=by omega
       exact HS.out
     case measure=>omega
    | false =>
     have HF:Hid (aGj t c=false):=aF2 fun h=>by have:=h.2 j hlt hlt2;rw [hs] at this;cases this
     have HS:=aA0 hs;clear hs
     go_wp2_with (go_at_call 104;refine (aRe _ _ t[j] _ _ c[j] _ HP.out HI.out (by omega)).mono ?_;rintro e w' ⟨rfl,rfl⟩;rw [HS.out])
     go_ret;exact ⟨aA2 HF.out.symm,rfl⟩
   .have hd0:decide (j<c.length)=false:=by simpa using hlt
    go_wp2_with fail
    go_ret;refine ⟨aA2 ?_,rfl⟩
    symm
    rw [aC4];exact ⟨HN.out,fun i a b=>HJ.out i (by omega) a b⟩
 .obtain ⟨n1,n2⟩:=aP4 hn
  have HF:Hid (aGj t c=false):=aF2 fun h=>hn h.1;clear hn;go_enter func82,ntmps82;go_wp2;go_ret;exact ⟨aA2 HF.out.symm,rfl⟩
theorem aAq {p:Prg} {g:Graph} (h:aH4 p g=0):aBj p=0/\GOK g/\p.vars.all (aGl g)=true:=by
 unfold aH4 at h;split at h
 .cases h
 .rename_i h1
  split at h
  .cases h
  .rename_i h2
   split at h
   .cases h
   .rename_i h3
    exact ⟨by simpa using h1,(aCz g).1 (by simpa using h2),by simpa using h3⟩
theorem aFj (v:Value) (p:Prg) (v2:Value) (g:Graph) (v3:Value) (c:aA5) (w:World) (h:aEk w v p) (h2:aAl w v2 g) (h3:aAz w v3 c) (hL:aAs p=true) (hG:aB5 g=true) (hC:aBo c=true) :
  Calls prog 58 #[v,v2,v3] w fun e w'=>e = .returned (.int .i64 (aCx p g c))/\Bel w w':=by
 have HPV:=aA0 (fun w' (k:Bel w w')=>h.keep k);have HGV:=aA0 (fun w' (k:Bel w w')=>h2.keep k);have HCV:=aA0 (fun w' (k:Bel w w')=>h3.keep k);obtain ⟨A,k,A2,k2,rfl,_,_,_,_,_,_⟩:=h;obtain ⟨A3,k3,A4,k4,rfl,_,_,_,_,_,_⟩:=h2;obtain ⟨A5,k5,rfl,_,_,_⟩:=h3;have HL:=aA0 hL;have HGL:=aA0 hG;have HCL:=aA0 hC;clear hL hG hC;have HW:=Bel.refl ((w.alloc (.cells #[.string p.name,.slice A p.vars.length k,.slice A2 p.rules.length k2] 25)).alloc (.cells #[.slice A3 g.ids.length k3,.slice A4 g.ports.length k4] 29))
 by_cases hf:aH4 p g=0
 .obtain ⟨f1,f2,_⟩:=aAq hf
  have HF1:=aA0 f1;have HF2:=aA0 f2;have HFZ:=aA0 hf;have HM:Hid (aCx p g c=if aGj (aAv p g) c=false then 10 else 0):=by show aCx p g c=_;unfold aCx;rw [if_neg (by simpa using hf)]
  clear hf f1 f2;cases hb:aGj (aAv p g) c with
  | true =>
   rw [hb,if_neg (by decide)] at HM
   have HBB:=aA0 hb;clear hb;go_enter func58,ntmps58
   go_wp2_with (first
    | (go_at_call 81;refine (aOt _ p _ g _ (HPV.out _ (aA1 HW)) (HGV.out _ (aA1 HW)) HL.out HGL.out).mono ?_;rintro e w' ⟨rfl,hb⟩;rw [HFZ.out];replace HW:=HW.trans hb;clear hb;obtain ⟨p0,p1,p2,g0,g1,gsz⟩:=aAh HW)
    | (go_at_call 83;refine (aRf _ p _ g _ (HPV.out _ (aA1 HW)) (HGV.out _ (aA1 HW)) HF1.out HF2.out HGL.out).mono ?_;rintro e w' ⟨tv,rfl,htv,hb⟩;replace HW:=HW.trans hb;have HTV:=aA0 htv;clear hb htv)
    | (go_at_call 82;refine (aJi _ (aAv p g) _ c _ HTV.out (HCV.out _ (aA1 HW)) HCL.out).mono ?_;rintro e w' ⟨rfl,rfl⟩;rw [HBB.out]))
   go_ret;exact ⟨aA4 HM.out.symm,aA1 HW⟩
  | false =>
   rw [hb,if_pos rfl] at HM;have HBB:=aA0 hb;clear hb;go_enter func58,ntmps58
   go_wp2_with (first
    | (go_at_call 81;refine (aOt _ p _ g _ (HPV.out _ (aA1 HW)) (HGV.out _ (aA1 HW)) HL.out HGL.out).mono ?_;rintro e w' ⟨rfl,hb⟩;rw [HFZ.out];replace HW:=HW.trans hb;clear hb;obtain ⟨p0,p1,p2,g0,g1,gsz⟩:=aAh HW)
    | (go_at_call 83;refine (aRf _ p _ g _ (HPV.out _ (aA1 HW)) (HGV.out _ (aA1 HW)) HF1.out HF2.out HGL.out).mono ?_;rintro e w' ⟨tv,rfl,htv,hb⟩;replace HW:=HW.trans hb;have HTV:=aA0 htv;clear hb htv)
    | (go_at_call 82;refine (aJi _ (aAv p g) _ c _ HTV.out (HCV.out _ (aA1 HW)) HCL.out).mono ?_;rintro e w' ⟨rfl,rfl⟩;rw [HBB.out]))
   go_ret;exact ⟨aA4 HM.out.symm,aA1 HW⟩
 .have HM:Hid (aCx p g c=aH4 p g):=by show aCx p g c=_;unfold aCx;rw [if_pos hf]
  have hfb:(aH4 p g != 0)=true:=by simpa using hf
  go_enter func58,ntmps58
  go_wp2_with (go_at_call 81;refine (aOt _ p _ g _ (HPV.out _ (aA1 HW)) (HGV.out _ (aA1 HW)) HL.out HGL.out).mono ?_;rintro e w' ⟨rfl,hb⟩;replace HW:=HW.trans hb;clear hb)
  go_ret;exact ⟨aA4 HM.out.symm,aA1 HW⟩
theorem aC9 (p:Prg) (g:Graph):(aAv p g).length=g.ids.length:=by simp [aAv]
theorem aEf {p:Prg} {g:Graph} {v:Nat} (h:v<(aAv p g).length):(aAv p g)[v]=aI2 p g v:=by simp [aAv]
theorem aBw (p:Prg) (g:Graph) (v:Nat):(aI2 p g v).length=p.vars.length:=by simp [aI2]
theorem aPe {p:Prg} {g:Graph} {v i:Nat} (h:i<(aI2 p g v).length):(aI2 p g v)[i]=aAg (p.vars[i]'(by rw [aBw] at h;exact h)) g v:=by simp [aI2]
theorem aCh (v:Value) (p:Prg) (v2:Value) (g:Graph) (v3:Value) (c:aA5) (w:World) (h:aEk w v p) (h2:aAl w v2 g) (h3:aAz w v3 c) (hL:aAs p=true) (hG:aB5 g=true) (hC:aBo c=true) :
  Calls prog 64 #[v,v2,v3] w fun e w'=>e = .returned (.int .i64 (aCx p g c))/\Bel w w':=by
 have HPV:=aA0 (fun w' (k:Bel w w')=>h.keep k);have HGV:=aA0 (fun w' (k:Bel w w')=>h2.keep k);obtain ⟨A,k,A2,k2,rfl,_,_,_,_,_,_⟩:=h;obtain ⟨A3,k3,A4,k4,rfl,_,_,_,_,_,_⟩:=h2;obtain ⟨A5,k5,rfl,hCR,_,_⟩:=h3;have HCR:=aA0 (fun w' (k:Bel w w')=>aOi.keep hCR k);clear hCR;have HL:=aA0 hL;have HGL:=aA0 hG;obtain ⟨l1,l2⟩:=aCj hC;have HL2:=aA0 l2;clear hL hG hC l2;have HW:=Bel.refl ((w.alloc (.cells #[.string p.name,.slice A p.vars.length k,.slice A2 p.rules.length k2] 25)).alloc (.cells #[.slice A3 g.ids.length k3,.slice A4 g.ports.length k4] 29))
 by_cases hf:aH4 p g=0
 .obtain ⟨f1,f2,_⟩:=aAq hf
  have HF1:=aA0 (aBd f1);have HF2:=aA0 f2;have HFZ:=aA0 hf;have HM:Hid (aCx p g c=if aGj (aAv p g) c=false then 10 else 0):=by show aCx p g c=_;unfold aCx;rw [if_neg (by simpa using hf)]
  have HTL:Hid ((aAv p g).length=g.ports.length):=by show (aAv p g).length=_;rw [aC9,f2.ids]
  clear hf f1 f2;have hv6:=HF1.out.2.2.1
  by_cases hn:c.length=g.ports.length
  .have hb:(c.length != c.length)=false:=by simp
   have HN:=aA0 hn;rw [<- hn] at HGV HW ⊢;clear hn;go_enter func64,ntmps64
   go_wp2_with (go_at_call 90;refine (aJ1 _ p _ g _ (HPV.out _ (aA1 HW)) (HGV.out _ (aA1 HW)) HL.out HGL.out).mono ?_;rintro e w' ⟨rfl,hb⟩;rw [HFZ.out];replace HW:=HW.trans hb;clear hb;obtain ⟨p0,p1,p2,g0,g1,gsz⟩:=aAh HW)
   clear hb p0 p1 p2 g0 g1 gsz
   go_loopg [8,9,10,11] c.length (fun m z _y _x _u wr=>∃ j:Nat,j<=c.length/\m=c.length-j/\z = .int .i64 j/\Hid (∀ i,i<j->(h1:i<c.length)->aE0 (aI2 p g i) c[i]=true)/\Bel ((w.alloc (.cells #[.string p.name,.slice A p.vars.length k,.slice A2 p.rules.length k2] 25)).alloc (.cells #[.slice A3 g.ids.length k3,.slice A4 c.length k4] 29)) wr)
   case atStart=>exact ⟨0,by omega,rfl,rfl,fun i hi=>absurd hi (by omega),HW⟩
   case round =>
    clear HW;obtain ⟨v,hv,rfl,rfl,HJ,HW⟩:=hrel;obtain ⟨p0,p1,p2,g0,g1,gsz⟩:=aAh HW
    by_cases hlt:v<c.length
    .have hd0:decide (v<c.length)=true:=by simpa using hlt
     have hvp:v<g.ports.length:=by rw [<- HN.out];exact hlt
     obtain ⟨b,o,R,rc,rfl,hb,hc,hI,_,_⟩:=(HCR.out _ (aA1 HW)).at_ v hlt;have hrl:=HL2.out _ (List.getElem_mem hlt)
     by_cases hnl:c[v].length=p.vars.length
     .have hb1:(c[v].length != p.vars.length)=false:=by simpa using hnl
      have hb2:((c[v].length:Int) != (p.vars.length:Int))=false:=by simp;omega
      have HNL:=aA0 hnl;clear hnl
      go_wp2_with fail
      go_quiet (fail)
      go_wp2_with fail
      clear hb1 hb2 p0 p1 p2 g0 g1 gsz hd0 hb hc hI
      go_loopg [9,10,11] c[v].length (fun m z _y _x ws=>∃ j:Nat,j<=c[v].length/\m=c[v].length-j/\z = .int .i64 j/\Hid (∀ i,i<j->(h1:i<c[v].length)->(h2:i<(aI2 p g v).length)->(aI2 p g v)[i].1<=c[v][i]/\c[v][i]<=(aI2 p g v)[i].2)/\Bel ((w.alloc (.cells #[.string p.name,.slice A p.vars.length k,.slice A2 p.rules.length k2] 25)).alloc (.cells #[.slice A3 g.ids.length k3,.slice A4 c.length k4] 29)) ws)
      case atStart=>exact ⟨0,by omega,rfl,rfl,fun i hi=>absurd hi (by omega),HW.drewN _⟩
      case round =>
       clear HW;obtain ⟨j,hj,rfl,rfl,HQ,HW⟩:=hrel;obtain ⟨p0,p1,p2,g0,g1,gsz⟩:=aAh HW;obtain ⟨b',o',R',rc',e',hb,hc,hI,_,_⟩:=(HCR.out _ (aA1 HW)).at_ v hlt;obtain ⟨rfl,rfl⟩:b=b'/\o=o':=by simpa using e'
       clear e'
       by_cases hlt2:j<c[v].length
       .have hd0:decide (j<c[v].length)=true:=by simpa using hlt2
        have hjv:j<p.vars.length:=by rw [<- HNL.out];exact hlt2
        have hjr:j<(aI2 p g v).length:=by rw [aBw];exact hjv
        have HRE:=aA0 (aPe hjr);have HNX:=aA0 (List.all_eq_true.1 HF1.out.1 _ (List.getElem_mem hjv));have hdv:decide (v<c.length)=true:=by simpa using hlt
        go_wp2_with fail
        refine (aJc _ p _ g v j _ (HPV.out _ (aA1 HW)) (HGV.out _ (aA1 HW)) hjv HNX.out HF2.out hvp HGL.out).mono ?_
        rintro e w' ⟨rfl,hbe⟩;rw [<- HRE.out];replace HW:=HW.trans hbe;clear hbe p0 p1 p2 g0 g1 gsz hb hc hI;obtain ⟨p0,p1,p2,g0,g1,gsz⟩:=aAh HW;obtain ⟨b',o',R2,rc2,e',hb,hc,hI,_,_⟩:=(HCR.out _ (aA1 HW)).at_ v hlt;obtain ⟨rfl,rfl⟩:b=b'/\o=o':=by simpa using e'
        clear e';obtain ⟨b3,o3,rfl,hb3,hc3⟩:=hI.at_ j hlt2
        by_cases hin:(aI2 p g v)[j].1<=c[v][j]/\c[v][j]<=(aI2 p g v)[j].2
        .have d1:inB c[v][j] (aI2 p g v)[j].1 (aI2 p g v)[j].2=true:=aDf hin.1 hin.2
         have HIN:=aA0 hin;clear hin
         go_wp2_with (go_at_call 92;refine (aCf _ _ _ _).mono ?_;rintro e w' ⟨rfl,rfl⟩)
         go_roundg (c[v].length-(j+1))
         case rel =>
          refine ⟨j+1,by omega,rfl,by go_num,?_,HW⟩
          intro i hi a1 a2
          rcases Nat.lt_or_ge i j with h | h
          .exact HQ.out i h a1 a2
          .obtain rfl:i=j:=by omega
           exact HIN.out
         case measure=>omega
        .have d1:inB c[v][j] (aI2 p g v)[j].1 (aI2 p g v)[j].2=false:=aHg (by omega)
         have HCF:Hid (aGj (aAv p g) c=false):=aF2 fun hh=>by
          have h3:=hh.2 v hlt (by rw [HTL.out];exact hvp)
          rw [aEf] at h3;exact hin ((aC3.1 h3).2 j hlt2 hjr)
         rw [HCF.out,if_pos rfl] at HM;clear hin
         go_wp2_with (go_at_call 92;refine (aCf _ _ _ _).mono ?_;rintro e w' ⟨rfl,rfl⟩)
         go_ret;exact ⟨aA4 HM.out.symm,aA1 HW⟩
       .have hd0:decide (j<c[v].length)=false:=by simpa using hlt2
        have hdv:decide (v<c.length)=true:=by simpa using hlt
        go_wp2_with fail
        go_roundg (c.length-(v+1))
        case rel =>
         refine ⟨v+1,by omega,rfl,by go_num,?_,HW⟩
         intro i hi a1
         rcases Nat.lt_or_ge i v with h | h
         .exact HJ.out i h a1
         .obtain rfl:i=v:=by omega
          rw [aC3];exact ⟨by rw [aBw,HNL.out],fun q b1 b2=>HQ.out q (by omega) b1 b2⟩
        case measure=>omega
     .obtain ⟨n1,n2⟩:=aP4 hnl
      have HCF:Hid (aGj (aAv p g) c=false):=aF2 fun hh=>by
       have h3:=hh.2 v hlt (by rw [HTL.out];exact hvp)
       rw [aEf] at h3;have:=(aC3.1 h3).1;rw [aBw] at this;exact hnl this
      rw [HCF.out,if_pos rfl] at HM;clear hnl
      go_wp2_with fail
      go_quiet (fail)
      go_wp2_with fail
      go_ret;exact ⟨aA4 HM.out.symm,(aA1 HW).drewN _⟩
    .have hd0:decide (v<c.length)=false:=by simpa using hlt
     have HCF:Hid (aGj (aAv p g) c=true):=by
      show aGj (aAv p g) c=true
      rw [aC4];refine ⟨by rw [HTL.out,HN.out],fun i a1 a2=>?_⟩
      rw [aEf];exact HJ.out i (by omega) a1
     rw [HCF.out,if_neg (by decide)] at HM
     go_wp2_with fail
     go_ret;exact ⟨aA4 HM.out.symm,aA1 HW⟩
  .obtain ⟨n1,n2⟩:=aP4 hn
   have HCF:Hid (aGj (aAv p g) c=false):=aF2 fun hh=>hn (by rw [hh.1,HTL.out])
   rw [HCF.out,if_pos rfl] at HM;clear hn;go_enter func64,ntmps64
   go_wp2_with (go_at_call 90;refine (aJ1 _ p _ g _ (HPV.out _ (aA1 HW)) (HGV.out _ (aA1 HW)) HL.out HGL.out).mono ?_;rintro e w' ⟨rfl,hb⟩;rw [HFZ.out];replace HW:=HW.trans hb;clear hb;obtain ⟨p0,p1,p2,g0,g1,gsz⟩:=aAh HW)
   go_ret;exact ⟨aA4 HM.out.symm,aA1 HW⟩
 .have HM:Hid (aCx p g c=aH4 p g):=by show aCx p g c=_;unfold aCx;rw [if_pos hf]
  have hfb:(aH4 p g != 0)=true:=by simpa using hf
  go_enter func64,ntmps64
  go_wp2_with (go_at_call 90;refine (aJ1 _ p _ g _ (HPV.out _ (aA1 HW)) (HGV.out _ (aA1 HW)) HL.out HGL.out).mono ?_;rintro e w' ⟨rfl,hb⟩;replace HW:=HW.trans hb;clear hb)
  go_ret;exact ⟨aA4 HM.out.symm,aA1 HW⟩
theorem aHq (v:Value) (p:Prg) (v2:Value) (g:Graph) (v3:Value) (c:aA5) (w:World) (h:aEk w v p) (h2:aAl w v2 g) (h3:aAz w v3 c) (hL:aAs p=true) (hG:aB5 g=true) (hC:aBo c=true) :
  Calls prog 42 #[v,v2,v3] w fun e w'=>e = .returned (.bool (decide (aCx p g c=0)))/\Bel w w':=by
 have HPV:=aA0 (fun w' (k:Bel w w')=>h.keep k);have HGV:=aA0 (fun w' (k:Bel w w')=>h2.keep k);have HCV:=aA0 (fun w' (k:Bel w w')=>h3.keep k);obtain ⟨A,k,A2,k2,rfl,_,_,_,_,_,_⟩:=h;obtain ⟨A3,k3,A4,k4,rfl,_,_,_,_,_,_⟩:=h2;obtain ⟨A5,k5,rfl,_,_,_⟩:=h3;have HW:=Bel.refl ((w.alloc (.cells #[.string p.name,.slice A p.vars.length k,.slice A2 p.rules.length k2] 25)).alloc (.cells #[.slice A3 g.ids.length k3,.slice A4 g.ports.length k4] 29));go_enter func42,ntmps42
 go_wp2_with (go_at_call 64;refine (aCh _ p _ g _ c _ (HPV.out _ (aA1 HW)) (HGV.out _ (aA1 HW)) (HCV.out _ (aA1 HW)) hL hG hC).mono ?_;rintro e w' ⟨rfl,hb⟩;replace HW:=HW.trans hb;clear hb)
 go_ret;exact ⟨aA2 (by rw [Bool.eq_iff_iff];simp),aA1 HW⟩
def aG5 (g:Graph) (v:Nat) (port:Int):Link:=(g.ports.getD v []).getD port.toNat default
def aCy (g:Graph) (op:Int) (v:Nat) (port:Int):Int :=
 if op=6 then g.ids.length else if op=7 then aD5 g.ids else if op=8 then g.ids.getD v 0 else if op=9 then (g.ports.getD v []).length
 else if op=10 then aBb (decide (v=0)) else if op=11 then port
 else if op=13 then g.ids.getD (aG5 g v port).to.toNat 0
 else if op=14 then (g.ports.getD (aG5 g v port).to.toNat []).length
 else if op=15 then aBb (decide ((aG5 g v port).to=0))
 else if op=16 then (aG5 g v port).weight
 else aDc (g.ports.getD (aG5 g v port).to.toNat []) v
def aFx (g:Graph) (c:aA5) (v:Nat) (port:Int) (t:Term):Int :=
 if t.op=1 then t.arg else if t.op=2 then 1 else if t.op=3 then 0 else if t.op=4 then -1
 else if t.op=5 then (c.getD v []).getD t.arg.toNat 0
 else if t.op=12 then (c.getD (aG5 g v port).to.toNat []).getD t.arg.toNat 0
 else aCy g t.op v port
def aAn (g:Graph) (c:aA5) (v:Nat):Int->Ex->Int
 | port,.leaf t=>aFx g c v port t
 | port,.un t a=>if aAa t.op then aI7 t.op ((List.range (g.ports.getD v []).length).map fun (k:Nat)=>aAn g c v (k:Int) a) else aH2 t.op (aAn g c v port a)
 | port,.bin t a b=>aDh t.op (aAn g c v port a) (aAn g c v port b)
 | port,.tri _ a b d=>if aAn g c v port a≠0 then aAn g c v port b else aAn g c v port d
def aAx:Bool->Ex->Prop
 | b,.leaf t=>aCp t.op=true->b=true
 | b,.un t a=>aAx (b||aAa t.op) a
 | b,.bin _ x y=>aAx b x/\aAx b y
 | b,.tri _ x y z=>aAx b x/\aAx b y/\aAx b z
theorem aZ1 {b:Bool} {k:Int} (h:ifK b k≠0):b=true/\k≠0:=by
 unfold ifK at h;cases b
 .exact absurd rfl h
 .exact ⟨rfl,h⟩
theorem aV0 {op a:Int} (h:aG0 op a≠0):a≠0:=by
 unfold aG0 at h;rintro rfl
 repeat' split at h
 all_goals exact h rfl
theorem aU1 {op a b:Int} (h:aHd op a b≠0):a≠0/\b≠0:=by
 unfold aHd at h
 repeat' split at h
 all_goals
  have:=(aZ1 h).1;simp at this
  omega
theorem aNw {kinds:List Int} {x:Ex}:∀ {b:Bool},aB0 kinds b x≠0->aAx b x:=by
 induction x with
 | leaf t =>
  intro b h hn
  simp only [aB0] at h
  cases b
  .rw [hn] at h;exact absurd rfl h
  .rfl
 | un t a ih=>intro b h;exact ih (aV0 h)
 | bin t x y ihx ihy=>intro b h;obtain ⟨h1,h2⟩:=aU1 h;exact ⟨ihx h1,ihy h2⟩
 | tri t x y z ihx ihy ihz =>
  intro b h
  obtain ⟨h1,h2⟩:=aZ1 h;simp at h1
  refine ⟨ihx (by omega),ihy h2,ihz ?_⟩
  rw [<- h1.2];exact h2
theorem aOs (l:List Int):∀ i:Int,aDo l i = -1∨(i<=aDo l i/\aDo l i<i+l.length):=by
 induction l with
 | nil=>intro i;left;rfl
 | cons a l ih =>
  intro i
  simp only [aDo]
  split
  .right;simp;omega
  .rcases ih (i+1) with h | h
   .left;exact h
   .right;simp;omega
theorem aOw (l:List Int):∀ z:Int,Num z->(∀ x∈l,Num x)->Num (l.foldl min z):=by
 induction l with
 | nil=>intro z hz _;exact hz
 | cons a l ih =>
  intro z hz h
  refine ih _ ?_ (fun x hx=>h x (by simp [hx]))
  have:=h a (by simp)
  unfold Num at *;omega
theorem aRk (l:List Int):∀ a b:Int,Num a->Num b->(∀ x∈l,Num x)->Num (aJ4 l a b).1/\Num (aJ4 l a b).2:=by
 induction l with
 | nil=>intro a b ha hb _;exact ⟨ha,hb⟩
 | cons x l ih =>
  intro a b ha hb h
  have hx:=h x (by simp)
  have hr:∀ y∈l,Num y:=fun y hy=>h y (by simp [hy])
  simp only [aJ4]
  split
  .exact ih _ _ hx ha hr
  .refine ih _ _ ha ?_ hr
   unfold Num at *;omega
theorem aW0 {op:Int} {l:List Int} (hn:∀ x∈l,Num x) (hl:l.length<=1000):Num (aI7 op l):=by
 unfold aI7;split
 .exact aE6 _
 split
 .exact aE6 _
 split
 .have:=aVu l;unfold Num;omega
 split
 .have:=aOs l 0;unfold Num;omega
 split
 .exact aOw l _ (by unfold Num;omega) hn
 split
 .exact (aRk l _ _ (by unfold Num;omega) (by unfold Num;omega) hn).1
 split
 .exact aTo _
 split
 .have h1:=aYc l (aK3 l 0) 0 (Nat.le_refl _)
  have h2:=aOq l 0;unfold aYb Num;omega
 split
 .exact (aRk l _ _ (by unfold Num;omega) (by unfold Num;omega) hn).2
 .cases l with
  | nil=>unfold Num;simp
  | cons a l=>exact hn a (by simp)
theorem aV5 {op a:Int} (h:Num a):Num (aH2 op a):=by
 unfold aH2;split
 .unfold Num at *;omega
 .exact aE6 _
theorem aRx {op a b:Int}:Num (aDh op a b):=aTo _
structure SOK (p:Prg) (g:Graph) (c:aA5) (v:Nat):Prop where
 fits:aH4 p g=0
 conf:aGj (aAv p g) c=true
 node:v<g.ports.length
theorem SOK.gok {p:Prg} {g:Graph} {c:aA5} {v:Nat} (h:SOK p g c v):GOK g:=(aAq h.fits).2.1
theorem SOK.len {p:Prg} {g:Graph} {c:aA5} {v:Nat} (h:SOK p g c v):c.length=g.ports.length:=by
 rw [(aC4.1 h.conf).1,aC9,h.gok.ids]
theorem SOK.row {p:Prg} {g:Graph} {c:aA5} {v:Nat} (h:SOK p g c v) {u:Nat} (hu:u<g.ports.length):(c[u]'(by rw [h.len];exact hu)).length=p.vars.length:=by
 have:=(aC4.1 h.conf).2 u (by rw [h.len];exact hu) (by rw [aC9,h.gok.ids];exact hu)
 rw [aEf] at this;have:=(aC3.1 this).1
 rwa [aBw] at this
theorem SOK.val {p:Prg} {g:Graph} {c:aA5} {v:Nat} (h:SOK p g c v) {u i:Nat} (hu:u<g.ports.length) (hi:i<p.vars.length) :
  (aAg p.vars[i] g u).1<=(c[u]'(by rw [h.len];exact hu))[i]'(by rw [h.row hu];exact hi)/\(c[u]'(by rw [h.len];exact hu))[i]'(by rw [h.row hu];exact hi)<=(aAg p.vars[i] g u).2:=by
 have h1:=(aC4.1 h.conf).2 u (by rw [h.len];exact hu) (by rw [aC9,h.gok.ids];exact hu)
 rw [aEf] at h1;have:=(aC3.1 h1).2 i (by rw [h.row hu];exact hi) (by rw [aBw];exact hi)
 rwa [aPe] at this
theorem SOK.small {p:Prg} {g:Graph} {c:aA5} {v:Nat} (h:SOK p g c v) {u i:Nat} (hu:u<g.ports.length) (hi:i<p.vars.length):Num ((c.getD u []).getD i 0):=by
 have h1:=h.val hu hi;have h2:=aHc (List.all_eq_true.1 (aBd (aAq h.fits).1).1 _ (List.getElem_mem hi)) h.gok hu;have e1:c.getD u []=c[u]'(by rw [h.len];exact hu):=aA6 (by rw [h.len];exact hu)
 rw [e1,aA6 (by rw [h.row hu];exact hi)]
 unfold Num;omega
theorem aIx {g:Graph} (hg:GOK g) {v k:Nat} (hv:v<g.ports.length) (hk:k<g.ports[v].length) :
  aG5 g v (k:Int)=g.ports[v][k]/\∃ t:Nat,g.ports[v][k].to=(t:Int)/\t<g.ports.length/\1<=g.ports[v][k].weight/\g.ports[v][k].weight<=15/\g.ports[v].length<g.ports.length:=by
 have h1:=hg.links v hv;obtain ⟨a1,a2,a3,a4,a5⟩:=aBs.1 ((aBi.1 h1).1 _ (List.getElem_mem hk));obtain ⟨t,ht⟩:=Int.eq_ofNat_of_zero_le a1;refine ⟨?_,t,ht,by omega,a4,a5,aCc hv h1⟩
 unfold aG5;rw [aA6 hv,Int.toNat_natCast,aA6 hk]
def aFn (g:Graph) (v:Nat) (b:Bool) (port:Int):Prop:=b=true->∃ k:Nat,port=(k:Int)/\k<(g.ports.getD v []).length
theorem aS9 {l:List Int} {k:Nat} {P:Int->Prop} (h0:P 0) (h:∀ x∈l,P x):P (l.getD k 0):=by
 rw [List.getD_eq_getElem?_getD];cases hx:l[k]? with
 | none=>exact h0
 | some x=>exact h x (List.mem_of_getElem? hx)
theorem aY3 {g:Graph} (hg:GOK g) {op:Int} {v:Nat} {port:Int} {b:Bool} (hv:v<g.ports.length) (hop:6<=op/\op<=17/\op≠12) (hb:aCp op=true->b=true) (hp:aFn g v b port):Num (aCy g op v port):=by
 have hle:=hg.le;have hids:=hg.ids;obtain ⟨g1,g2⟩:=aI0 hg;have hid:∀ k,Num (g.ids.getD k 0):=fun k=>aS9 (P:=Num) (by unfold Num;omega) (fun x hx=>by have:=hg.idr x hx;unfold Num;omega)
 have hlen:∀ u,(g.ports.getD u []).length<=24:=fun u=>by
  rcases Nat.lt_or_ge u g.ports.length with h | h
  .rw [aA6 h];have:=aCc h (hg.links u h);omega
  .rw [List.getD_eq_getElem?_getD,List.getElem?_eq_none h];simp
 by_cases hn:11<=op
 .have hnear:aCp op=true:=by unfold aCp;simp;omega
  obtain ⟨k,rfl,hk⟩:=hp (hb hnear);rw [aA6 hv] at hk;obtain ⟨e,t,ht,htl,w1,w2,hl⟩:=aIx hg hv hk;have hr:=aMz (g.ports.getD t []) (v:Int);have:=hlen t;have hlv:=hlen v;unfold aCy;rw [e,ht,Int.toNat_natCast];generalize g.ports[v][k].weight=wt at *;generalize (g.ports.getD t []).length=len at *;generalize aDc (g.ports.getD t []) (v:Int)=pf at *;generalize (g.ports.getD v []).length=lv at *;generalize aD5 g.ids=gm at *;have n0:Num (g.ids.length:Int):=by unfold Num;omega
  have n1:Num gm:=by unfold Num;omega
  have n2:Num (lv:Int):=by unfold Num;omega
  have n3:Num (k:Int):=by unfold Num;omega
  have n4:Num (len:Int):=by unfold Num;omega
  have n5:Num wt:=by unfold Num;omega
  have n6:Num pf:=by unfold Num;omega
  by_cases c1:op=6
  .rw [if_pos c1];exact n0
  rw [if_neg c1]
  by_cases c2:op=7
  .rw [if_pos c2];exact n1
  rw [if_neg c2]
  by_cases c3:op=8
  .rw [if_pos c3];exact hid _
  rw [if_neg c3]
  by_cases c4:op=9
  .rw [if_pos c4];exact n2
  rw [if_neg c4]
  by_cases c5:op=10
  .rw [if_pos c5];exact aE6 _
  rw [if_neg c5]
  by_cases c6:op=11
  .rw [if_pos c6];exact n3
  rw [if_neg c6]
  by_cases c7:op=13
  .rw [if_pos c7];exact hid _
  rw [if_neg c7]
  by_cases c8:op=14
  .rw [if_pos c8];exact n4
  rw [if_neg c8]
  by_cases c9:op=15
  .rw [if_pos c9];exact aE6 _
  rw [if_neg c9]
  by_cases c10:op=16
  .rw [if_pos c10];exact n5
  rw [if_neg c10];exact n6
 .unfold aCy
  have hlv:=hlen v
  by_cases c1:op=6
  .rw [if_pos c1];unfold Num;omega
  rw [if_neg c1]
  by_cases c2:op=7
  .rw [if_pos c2];unfold Num;omega
  rw [if_neg c2]
  by_cases c3:op=8
  .rw [if_pos c3];exact hid _
  rw [if_neg c3]
  by_cases c4:op=9
  .rw [if_pos c4];unfold Num;omega
  rw [if_neg c4]
  by_cases c5:op=10
  .rw [if_pos c5];exact aE6 _
  exfalso;omega
theorem aY9 {p:Prg} {g:Graph} {c:aA5} {v:Nat} (h:SOK p g c v) {t:Term} {port:Int} {b:Bool} (har:aAe t.op=0) (ha:aFf t p.vars.length=true) (hb:aCp t.op=true->b=true) (hp:aFn g v b port):Num (aFx g c v port t):=by
 have hr:=(aB2 t.op).1 har;obtain ⟨op,arg⟩:=t;dsimp only at *;unfold aFx;dsimp only
 by_cases h1:op=1
 .rw [if_pos h1]
  subst h1;have hd:decide (0<=arg/\arg<=1073741824)=true:=ha;have:=of_decide_eq_true hd;unfold Num;omega
 rw [if_neg h1];split
 .unfold Num;omega
 split
 .unfold Num;omega
 split
 .unfold Num;omega
 split
 .rename_i h5
  obtain ⟨a1,a2⟩:=aHa ha (.inl h5);obtain ⟨a,rfl⟩:=Int.eq_ofNat_of_zero_le a1;rw [Int.toNat_natCast];exact h.small h.node (by omega)
 split
 .rename_i h12
  obtain ⟨a1,a2⟩:=aHa ha (.inr h12);obtain ⟨a,rfl⟩:=Int.eq_ofNat_of_zero_le a1;obtain ⟨k,rfl,hk⟩:=hp (hb (by unfold aCp;simp;omega))
  rw [aA6 h.node] at hk;obtain ⟨e,t,ht,htl,_⟩:=aIx h.gok h.node hk;rw [e,ht,Int.toNat_natCast,Int.toNat_natCast];exact h.small htl (by omega)
 .rename_i h2 h3 h4 h5 h12
  exact aY3 h.gok h.node (by omega) hb hp
theorem aWu {g:Graph} (hg:GOK g) {v:Nat} (hv:v<g.ports.length):(g.ports.getD v []).length<24:=by
 rw [aA6 hv];have:=aCc hv (hg.links v hv);have:=hg.le;omega
theorem aGk {p:Prg} {g:Graph} {c:aA5} {v:Nat} (h:SOK p g c v) {x:Ex} (hx:x.ok) (ha:∀ t∈x.terms,aFf t p.vars.length=true):∀ {b:Bool} {port:Int},aAx b x->aFn g v b port->Num (aAn g c v port x):=by
 induction x with
 | leaf t=>intro b port hb hp;exact aY9 h hx (ha t (by simp [Ex.terms])) hb hp
 | un t a ih =>
  intro b port hb hp
  have ha':∀ s∈a.terms,aFf s p.vars.length=true:=fun s hs=>ha s (by simp [Ex.terms,hs])
  simp only [aAn]
  split
  .rename_i hag
   refine aW0 (fun y hy=>?_) (by rw [List.length_map,List.length_range];have:=aWu h.gok h.node;omega)
   obtain ⟨k,hk,rfl⟩:=List.mem_map.1 hy;rw [List.mem_range] at hk;refine ih hx.2 ha' (b:=true) ?_ (fun _=>⟨k,rfl,hk⟩)
   have hb':aAx (b||aAa t.op) a:=hb
   rwa [hag,Bool.or_true] at hb'
  .rename_i hag
   refine aV5 (ih hx.2 ha' (b:=b) ?_ hp)
   have hb':aAx (b||aAa t.op) a:=hb
   rwa [show aAa t.op=false by simpa using hag,Bool.or_false] at hb'
 | bin t x y ihx ihy=>intro b port hb hp;exact aRx
 | tri t x y z ihx ihy ihz =>
  intro b port hb hp
  simp only [aAn]
  obtain ⟨_,_,o2,o3⟩:=hx;split
  .exact ihy o2 (fun s hs=>ha s (by simp [Ex.terms,hs])) hb.2.1 hp
  .exact ihz o3 (fun s hs=>ha s (by simp [Ex.terms,hs])) hb.2.2 hp
end Go.Proofs.YtdcjnhoabbdanaaGreatDoor

