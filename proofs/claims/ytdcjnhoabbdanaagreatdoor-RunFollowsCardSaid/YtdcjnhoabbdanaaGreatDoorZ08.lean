/- Merged. -/
import Derived.Test.YtdcjnhoabbdanaaGreatDoorZ06
import Derived.Deep.RegionHeld3
import Derived.OrdersIn
import Derived.ProofKit
import Derived.OpenShut
import Derived.Deep.Slices
import Derived.Deep.Fields
import Derived.ChangeSame
import Derived.Carry
set_option linter.unusedSimpArgs false
set_option linter.unnecessarySimpa false
set_option linter.unusedVariables false
set_option maxRecDepth 100000
set_option maxHeartbeats 4000000
open Go.Proofs.Tryz

namespace Go.Proofs.YtdcjnhoabbdanaaGreatDoor
open Go.RowKit
theorem aT6 {n v:Nat} {ls:List Link} {i:Nat} (h:i<ls.length) (hb:aK2 n v ls[i]=false):aCt n v ls=false:=by
 unfold aCt;rw [aAo h hb];rfl
theorem aT7 {n v:Nat} {ls:List Link} {j i:Nat} (hj:j<i) (h:i<ls.length) (he:ls[j].to=ls[i].to):aCt n v ls=false:=by
 unfold aCt
 have:decide ((ls.map Link.to).Nodup)=false:=by
  simp only [decide_eq_false_iff_not]
  exact aEq hj (by simpa using h) (by simpa using he)
 rw [this];simp
theorem aJ2 (A:Option Addr) (c:Nat) (ls:List Link) (v n:Nat) (w:World) (h:aGj w A ls.length ls) (hl:ls.length<=1000000) (hn:n<=1000000) :
  Calls prog 97 #[.slice A ls.length c,.int .i64 v,.int .i64 n] w fun e w'=>e = .returned (.bool (aCt n v ls))/\Bel w w':=by
 have H:=aA0 (fun w' (k:Bel w w')=>aGj.keep h k);clear h;go_enter func97,ntmps97;go_wp2
 go_loopg [7,8] ls.length (fun m x _y wr=>∃ j:Nat,j<=ls.length/\m=ls.length-j/\Hid ((ls.take j).all (aK2 n v)=true/\((ls.map Link.to).take j).Nodup)/\x = .int .i64 j/\Bel w wr)
 case atStart=>exact ⟨0,by omega,rfl,⟨rfl,by simp⟩,rfl,Bel.refl _⟩
 case round =>
  obtain ⟨i,hi,rfl,HK,rfl,HB⟩:=hrel
  by_cases hlt:i<ls.length
  .obtain ⟨b,o,rfl,hb,hl1,hl2⟩:=(H.out _ HB).at_ i hlt
   cases hok:aK2 n v ls[i] with
   | false =>
    have HF:=aA0 (aT6 hlt hok);have HO:=aA0 hok;clear hok
    go_wp2_with (go_at_call 92;refine (aCk _ _ _ _).mono ?_;rintro e w' ⟨rfl,rfl⟩)
    all_goals first
     | (go_ret;exact ⟨aA2 HF.out.symm,HB⟩)
     | (exfalso
        have a1:inB ls[i].to 0 (↑n-1)=true:=by assumption
        obtain ⟨a2,a3'⟩:(ls[i].to==(v:Int))=false/\(!inB ls[i].weight 1 15)=false:=by assumption
        have a3:inB ls[i].weight 1 15=true:=by simpa using a3'
        rw [aKu] at a1 a3;have a4:ls[i].to≠(v:Int):=by simpa using a2
        have:=HO.out;rw [aBt.2 ⟨by omega,by omega,a4,by omega,by omega⟩] at this
        cases this)
   | true =>
    obtain ⟨q1,q2,q3,q4,q5⟩:=aBt.1 hok;have a1:inB ls[i].to 0 (↑n-1)=true:=aDm (by omega) (by omega)
    have a2:(ls[i].to==(v:Int))=false:=by simpa using q3
    have a3:inB ls[i].weight 1 15=true:=aDm (by omega) (by omega)
    have HO:=aA0 hok;clear hok q3
    go_wp2_with (go_at_call 92;refine (aCk _ _ _ _).mono ?_;rintro e w' ⟨rfl,rfl⟩)
    clear a1 a2 a3
    go_loopg [8] i (fun m x ws=>∃ j:Nat,j<=i/\m=i-j/\Hid (∀ q,(hq:q<j)->(hq':q<ls.length)->ls[q].to≠ls[i].to)/\x = .int .i64 j/\Bel wr ws)
    case atStart=>exact ⟨0,by omega,rfl,fun q hq=>absurd hq (by omega),rfl,Bel.refl _⟩
    case round =>
     obtain ⟨j,hj,rfl,HJ,rfl,HB2⟩:=hrel
     by_cases hlt2:j<i
     .have hji:j<ls.length:=by omega
      obtain ⟨b',o',e',hb',hj1,_⟩:=(H.out _ (HB.trans HB2)).at_ j hji;obtain ⟨rfl,rfl⟩:b=b'/\o=o':=by simpa using e'
      clear e';have hi1:=(HB2.cell hb).trans hl1;have hd:decide (j<i)=true:=by simpa using hlt2
      go_wp2
      go_quiet (fail)
      go_wp2
      .have he:(ls[j].to==ls[i].to)=true:=by assumption
       go_ret;exact ⟨aA2 (aT7 hlt2 hlt (by simpa using he)).symm,(HB.trans HB2).drewN _⟩
      .have he:(ls[j].to==ls[i].to)=false:=by assumption
       go_roundg (i-(j+1))
       case rel =>
        refine ⟨j+1,by omega,rfl,?_,by go_num,HB2.drewN _⟩
        intro q hq hq'
        rcases Nat.lt_or_ge q j with h | h
        .exact HJ.out q h hq'
        .obtain rfl:q=j:=by omega
         simpa using he
       case measure=>omega
     .have hd:decide (j<i)=false:=by simpa using hlt2
      go_wp2
      go_roundg (ls.length-(i+1))
      case rel =>
       refine ⟨i+1,by omega,rfl,⟨aAb hlt HK.out.1 HO.out,aE0 (by simpa using hlt) HK.out.2 ?_⟩,by go_num,HB.trans HB2⟩
       intro q hq
       have:=HJ.out q (by omega) (by omega)
       simpa using this
      case measure=>omega
  .go_wp2
   go_ret;refine ⟨aA2 ?_,HB⟩
   symm
   rw [aBj];have h1:=HK.out;rw [List.take_of_length_le (by omega),List.take_of_length_le (by simp;omega)] at h1
   exact ⟨List.all_eq_true.1 h1.1,h1.2⟩
def aGa (r:Rule):Nat:=r.guard.length+(r.sets.map (fun s=>s.value.length)).sum
def aLs (p:Prg):Nat:=(p.rules.map aGa).sum
theorem aHc {α:Type} (f:α->Nat) (l:List α) (k:Nat) (h:k<l.length):((l.take (k+1)).map f).sum=((l.take k).map f).sum+f l[k]:=by
 rw [List.take_succ_eq_append_getElem h,List.map_append,List.sum_append];simp
theorem aP3 {α:Type} (f:α->Nat) (l:List α) (b:Nat) (h:∀ x∈l,f x<=b):(l.map f).sum<=l.length*b:=by
 induction l with
 | nil=>simp
 | cons x l ih =>
  have h1:=h x (by simp)
  have h2:=ih (fun y hy=>h y (by simp [hy]))
  simp only [List.map_cons,List.sum_cons,List.length_cons,Nat.add_mul]
  omega
theorem aS6 {r:Rule} (h:aF4 r=true):aGa r<=2750:=by
 unfold aF4 at h;simp at h
 obtain ⟨⟨⟨h1,h2⟩,h3⟩,h4⟩:=h;have:=aP3 (fun s:SetT=>s.value.length) r.sets 250 h4;unfold aGa;have:r.sets.length*250<=2500:=by omega
 omega
theorem aB7 {p:Prg} (h:aAw p=true):p.name.size<=40/\p.vars.length<=10/\p.rules.length<=16/\(∀ x∈p.vars,x.name.size<=40)/\(∀ r∈p.rules,aF4 r=true):=by
 unfold aAw at h;simp at h
 obtain ⟨⟨⟨⟨h1,h2⟩,h3⟩,h4⟩,h5⟩:=h;exact ⟨h1,h2,h3,h4,h5⟩
theorem aBy {r:Rule} (h:aF4 r=true):r.name.size<=40/\r.sets.length<=10/\r.guard.length<=250/\∀ s∈r.sets,s.value.length<=250:=by
 unfold aF4 at h;simp at h
 obtain ⟨⟨⟨h1,h2⟩,h3⟩,h4⟩:=h;exact ⟨h1,h2,h3,h4⟩
theorem aS5 {p:Prg} (h:aAw p=true):aLs p<=44000:=by
 obtain ⟨_,_,h3,_,h5⟩:=aB7 h;have:=aP3 aGa p.rules 2750 (fun r hr=>aS6 (h5 r hr));unfold aLs;have:p.rules.length*2750<=44000:=by omega
 omega
theorem aD5 {g:Graph} (h:aB3 g=true):g.ids.length<=30/\g.ports.length<=30/\∀ r∈g.ports,r.length<=30:=by
 unfold aB3 at h;simp at h
 obtain ⟨⟨h1,h2⟩,h3⟩:=h;exact ⟨h1,h2,h3⟩
theorem aMk {g:Graph} (h:aB3 g=true):1<=aDl g/\aDl g<=30:=by
 obtain ⟨_,_,h3⟩:=aD5 h;refine ⟨aPr _ _,aPs _ _ _ (by omega) ?_⟩
 intro x hx
 obtain ⟨r,hr,rfl⟩:=List.mem_map.1 hx;exact h3 r hr
theorem aS7 (v:Value) (p:Prg) (w:World) (h:aEm w v p) (hlight:aAw p=true) :
  Calls prog 32 #[v] w fun e w'=>e = .returned (.int .i64 (aLs p:Nat))/\Bel w w':=by
 obtain ⟨A,k,A2,k2,rfl,_,_,_,hr,_,_⟩:=h;obtain ⟨_,_,hp3,_,hp5⟩:=aB7 hlight;have HP:=aA0 hp5;clear hp5 hlight;have HR:=aA0 hr;clear hr;go_enter func32,ntmps32;go_wp2
 go_loopg [3,4,5] p.rules.length (fun m s i _z wr=>∃ j:Nat,j<=p.rules.length/\m=p.rules.length-j/\s = .int .i64 ((((p.rules.take j).map aGa).sum:Nat):Int)/\((p.rules.take j).map aGa).sum<=j*2750/\i = .int .i64 j/\w.alloc (.cells #[.string p.name,.slice A p.vars.length k,.slice A2 p.rules.length k2] 25)=wr)
 case atStart=>exact ⟨0,by omega,rfl,rfl,by simp,rfl,rfl⟩
 case round =>
  obtain ⟨i,hi,rfl,rfl,hsum,rfl,rfl⟩:=hrel
  by_cases hlt:i<p.rules.length
  .obtain ⟨b,o,G,c,S,c2,rfl,hb,hc1,hc2,hc3,_,_,_,hS,_,_⟩:=HR.out.at_ i hlt
   have HS:=aA0 hS;clear hS;have hL:=HP.out p.rules[i] (List.getElem_mem hlt);obtain ⟨_,hr2,hr3,hr4⟩:=aBy hL;have H4:=aA0 hr4;clear hr4;have hT:=aS6 hL
   have HT:Hid (∀ t,((p.rules[i].sets.take p.rules[i].sets.length).map (fun s=>s.value.length)).sum=t->((p.rules.take i).map aGa).sum+p.rules[i].guard.length+t=((p.rules.take (i+1)).map aGa).sum):=by
    intro t ht
    rw [List.take_of_length_le (Nat.le_refl _)] at ht;rw [aHc aGa _ _ hlt];unfold aGa at *;omega
   have hsum2:Hid (((p.rules.take (i+1)).map aGa).sum<=(i+1)*2750):=by
    show ((p.rules.take (i+1)).map aGa).sum<=(i+1)*2750
    rw [aHc aGa _ _ hlt];omega
   clear hL hT;generalize ((p.rules.take i).map aGa).sum=N at *;go_wp2
   go_loopg [3,5] p.rules[i].sets.length (fun m s x ws=>∃ j:Nat,j<=p.rules[i].sets.length/\m=p.rules[i].sets.length-j/\s = .int .i64 ((N+p.rules[i].guard.length+((p.rules[i].sets.take j).map (fun s=>s.value.length)).sum:Nat):Int)/\((p.rules[i].sets.take j).map (fun s=>s.value.length)).sum<=j*250/\x = .int .i64 j/\w.alloc (.cells #[.string p.name,.slice A p.vars.length k,.slice (some ⟨b,o,none⟩) p.rules.length k2] 25)=ws)
   case atStart=>exact ⟨0,by omega,rfl,by simp,by simp,rfl,rfl⟩
   case round =>
    obtain ⟨q,hq,rfl,rfl,hs2,rfl,rfl⟩:=hrel
    by_cases hlt2:q<p.rules[i].sets.length
    .obtain ⟨b',o',R,c',rfl,hb',hs1,hs3,_,_,_⟩:=HS.out.at_ q hlt2
     have hv:=H4.out _ (List.getElem_mem hlt2);have hss:=aA0 (aHc (fun s:SetT=>s.value.length) _ _ hlt2);generalize hg:((p.rules[i].sets.take q).map (fun s=>s.value.length)).sum=M at *;clear hg;go_wp2
     go_roundg (p.rules[i].sets.length-(q+1))
     case rel=>exact ⟨q+1,by omega,rfl,by rw [hss.out];go_num,by rw [hss.out];omega,by go_num,rfl⟩
     case measure=>omega
    .have e:q=p.rules[i].sets.length:=by omega
     have HQ:=aA0 (HT.out _ (by rw [<- e]))
     clear e;generalize hg:((p.rules[i].sets.take q).map (fun s=>s.value.length)).sum=M at *;clear hg;go_wp2
     go_roundg (p.rules.length-(i+1))
     case rel=>exact ⟨i+1,by omega,rfl,by rw [<- HQ.out],hsum2.out,by go_num,rfl⟩
     case measure=>omega
  .go_wp2
   go_ret;exact ⟨aA5 (by unfold aLs;rw [List.take_of_length_le (by omega)]),(Bel.refl _).alloc _⟩
def aFp (p:Prg) (g:Graph):Bool:=aAw p&&aB3 g&&decide (aLs p*g.ports.length*aDl g*aDl g<=100000)
theorem aIq {a b:Nat} {x y:Nat} (ha:a<=x) (hb:b<=y) (h:x*y<=9223372036854775807):IntKind.i64.wrap ((a:Int)*(b:Int))=((a*b:Nat):Int):=by
 have h1:a*b<=x*y:=Nat.mul_le_mul ha hb;rw [<- Int.natCast_mul];exact IntWalk.i64_in _ (by omega)
theorem aKf (v:Value) (p:Prg) (v2:Value) (g:Graph) (w:World) (h:aEm w v p) (h2:aAn w v2 g) :
  Calls prog 30 #[v,v2] w fun e w'=>e = .returned (.bool (aFp p g))/\Bel w w':=by
 have HP:=aA0 (fun w' (k:Bel w w')=>h.keep k);have HG:=aA0 (fun w' (k:Bel w w')=>h2.keep k);obtain ⟨A,k,A2,k2,rfl,_,_,_,_,_,_⟩:=h;obtain ⟨A3,k3,A4,k4,rfl,_,_,_,_,_,_⟩:=h2;have HW:=Bel.refl ((w.alloc (.cells #[.string p.name,.slice A p.vars.length k,.slice A2 p.rules.length k2] 25)).alloc (.cells #[.slice A3 g.ids.length k3,.slice A4 g.ports.length k4] 29));cases hlp:aAw p with
 | false =>
  have HF:Hid (aFp p g=false):=by show aFp p g=false;simp [aFp,hlp]
  go_enter func30,ntmps30
  go_wp2_with (go_at_call 56;refine (aF1 _ p _ (HP.out _ (aA1 HW))).mono ?_;rintro e w' ⟨rfl,hb⟩;replace HW:=HW.trans hb;clear hb)
  go_ret;exact ⟨aA2 HF.out.symm,aA1 HW⟩
 | true =>
  cases hlg:aB3 g with
  | false =>
   have HF:Hid (aFp p g=false):=by show aFp p g=false;simp [aFp,hlg]
   go_enter func30,ntmps30
   go_wp2_with (first
    | (go_at_call 56;refine (aF1 _ p _ (HP.out _ (aA1 HW))).mono ?_;rintro e w' ⟨rfl,hb⟩;replace HW:=HW.trans hb;clear hb;obtain ⟨p0,p1,p2,g0,g1,gsz⟩:=aAi HW)
    | (go_at_call 57;refine (aJ1 _ g _ (HG.out _ (aA1 HW))).mono ?_;rintro e w2 ⟨rfl,hb⟩;replace HW:=HW.trans hb;clear hb))
   go_ret;exact ⟨aA2 HF.out.symm,aA1 HW⟩
  | true =>
   have hT:=aS5 hlp;have hD:=aMk hlg;have hN:=(aD5 hlg).2.1;have w1:=aIq hT hN (by decide)
   have w2:=aIq (Nat.mul_le_mul hT hN) hD.2 (by decide)
   have w3:=aIq (Nat.mul_le_mul (Nat.mul_le_mul hT hN) hD.2) hD.2 (by decide)
   have HF:Hid (aFp p g=decide (aLs p*g.ports.length*aDl g*aDl g<=100000)):=by show aFp p g=_;simp [aFp,hlp,hlg]
   have HL:=aA0 hlp;have W2:=aA0 w2;have W3:=aA0 w3;rw [<- Int.natCast_mul] at W2 W3;clear hT hD hN w2 w3;go_enter func30,ntmps30
   go_wp2_with (first
    | (go_at_call 56;refine (aF1 _ p _ (HP.out _ (aA1 HW))).mono ?_;rintro e w' ⟨rfl,hb⟩;replace HW:=HW.trans hb;clear hb;obtain ⟨p0,p1,p2,g0,g1,gsz⟩:=aAi HW)
    | (go_at_call 57;refine (aJ1 _ g _ (HG.out _ (aA1 HW))).mono ?_;rintro e w2 ⟨rfl,hb⟩;replace HW:=HW.trans hb;clear hb p0 p1 p2 g0 g1 gsz;obtain ⟨p0,p1,p2,g0,g1,gsz⟩:=aAi HW)
    | (go_at_call 33;refine (aMl _ g _ (HG.out _ (aA1 HW))).mono ?_;rintro e w2 ⟨rfl,hb⟩;replace HW:=HW.trans hb;clear hb p0 p1 p2 g0 g1 gsz;obtain ⟨p0,p1,p2,g0,g1,gsz⟩:=aAi HW))
   replace HW:=HW.drew
   go_region_held3 (fun w'=>w'.cell? ⟨w.heap.size,0,none⟩=some (.string p.name)/\w'.cell? ⟨w.heap.size,1,none⟩=some (.slice A p.vars.length k)/\w'.cell? ⟨w.heap.size,2,none⟩=some (.slice A2 p.rules.length k2)/\w'.cell? ⟨w.heap.size+1,0,none⟩=some (.slice A3 g.ids.length k3)/\w'.cell? ⟨w.heap.size+1,1,none⟩=some (.slice A4 g.ports.length k4)/\w.heap.size+1<w'.heap.size) (exact aAi HW) (first | (go_simp;go_at_call 32;refine (aS7 _ p _ (HP.out _ (aA1 HW)) HL.out).mono ?_;rintro e w4 ⟨rfl,hb⟩;replace HW:=HW.trans hb;clear hb))
   all_goals
    go_wp2;go_ret;refine ⟨aA2 ?_,aA1 HW⟩
    rw [HF.out,Bool.eq_iff_iff];simp only [decide_eq_true_eq,<- Int.natCast_mul]
    rw [W2.out,<- Int.natCast_mul,W3.out];omega
theorem aEj {p:Prg} {g:Graph} (h:aFp p g=true):aAw p=true/\aB3 g=true:=by
 unfold aFp at h;simp at h;exact h.1
theorem aDt {g:Graph} (h:¬ GOK g):aEa g=false:=by
 rw [Bool.eq_false_iff];intro hb;exact h ((aEe g).1 hb)
theorem aDc (v:Value) (g:Graph) (w:World) (h:aAn w v g) (hlg:aB3 g=true) :
  Calls prog 72 #[v] w fun e w'=>e = .returned (.bool (aEa g))/\Bel w w':=by
 have HG:=aA0 (fun w' (k:Bel w w')=>h.keep k);obtain ⟨A,k,A2,k2,rfl,hI,_,_,hP,_,_⟩:=h;have HI:=aA0 (fun w' (k:Bel w w')=>aBr.keep hI k);clear hI;have HP:=aA0 (fun w' (k:Bel w w')=>aF3.keep hP k);clear hP;obtain ⟨hl1,hl2,hl3⟩:=aD5 hlg;have HL3:=aA0 hl3;clear hl3 hlg
 by_cases hn:1<=g.ports.length/\g.ports.length<=24/\g.ids.length=g.ports.length
 .obtain ⟨hn1,hn2,hn3⟩:=hn
  have hb1:inB (g.ports.length:Int) 1 24=true:=aDm (by omega) (by omega)
  rw [hn3] at HI HG ⊢;have HN:=aA0 hn3;clear hn3;have hb2:(g.ports.length != g.ports.length)=false:=by simp
  have HW:=Bel.refl (w.alloc (.cells #[.slice A g.ports.length k,.slice A2 g.ports.length k2] 29));go_enter func72,ntmps72
  go_wp2_with (go_at_call 92;refine (aCk _ _ _ _).mono ?_;rintro e w' ⟨rfl,rfl⟩)
  clear hb1 hb2
  go_loopg [4,5] g.ports.length (fun m x _y wr=>∃ j:Nat,j<=g.ports.length/\m=g.ports.length-j/\Hid ((g.ids.take j).all (fun i=>decide (0<=i/\i<=255))=true/\(g.ids.take j).Nodup/\∀ q,q<j->(hq:q<g.ports.length)->aCt g.ports.length q g.ports[q]=true)/\x = .int .i64 j/\Bel (w.alloc (.cells #[.slice A g.ports.length k,.slice A2 g.ports.length k2] 29)) wr)
  case atStart=>exact ⟨0,by omega,rfl,⟨rfl,by simp,fun q hq=>absurd hq (by omega)⟩,rfl,HW⟩
  case round =>
   clear HW;obtain ⟨i,hi,rfl,HK,rfl,HB⟩:=hrel;have b0:=aA9 HB 0 rfl;have b1:=aA9 HB 1 rfl;have bs:=aAx HB
   by_cases hlt:i<g.ports.length
   .have hd0:decide (i<g.ports.length)=true:=by simpa using hlt
    have hlt':i<g.ids.length:=by rw [HN.out];exact hlt
    obtain ⟨b,o,rfl,hb,hid⟩:=(HI.out _ (aA4 HB)).at_ i hlt';obtain ⟨b',o',R,c',rfl,hb',hrow,hL,_,_⟩:=(HP.out _ (aA4 HB)).at_ i hlt;have HL:=aA0 hL;clear hL;have hle:=HL3.out g.ports[i] (List.getElem_mem hlt);cases hio:decide (0<=g.ids[i]/\g.ids[i]<=255) with
    | false =>
     have hio':=of_decide_eq_false hio;have HF:Hid (aEa g=false):=aDt fun hg=>hio' (hg.idr _ (List.getElem_mem hlt'));have hin:inB g.ids[i] 0 255=false:=aHz (by omega)
     clear hio hio'
     go_wp2_with (go_at_call 92;refine (aCk _ _ _ _).mono ?_;rintro e w' ⟨rfl,rfl⟩)
     go_ret;exact ⟨aA2 HF.out.symm,aA4 HB⟩
    | true =>
     have hio':=of_decide_eq_true hio;have hin:inB g.ids[i] 0 255=true:=aDm hio'.1 hio'.2;have HIO:=aA0 hio;clear hio hio';cases hok:aCt g.ports.length i g.ports[i] with
     | false =>
      have HF:Hid (aEa g=false):=aDt fun hg=>by have:=hg.links i hlt;rw [hok] at this;cases this
      by_cases hge:g.ports.length<=g.ports[i].length
      .have hd:decide (g.ports.length<=g.ports[i].length)=true:=by simpa using hge
       go_wp2_with (go_at_call 92;refine (aCk _ _ _ _).mono ?_;rintro e w' ⟨rfl,rfl⟩)
       go_ret;exact ⟨aA2 HF.out.symm,aA4 HB⟩
      .have hd:decide (g.ports.length<=g.ports[i].length)=false:=by simpa using hge
       go_wp2_with (first
        | (go_at_call 92;refine (aCk _ _ _ _).mono ?_;rintro e w' ⟨rfl,rfl⟩)
        | (go_at_call 97;refine (aJ2 _ _ g.ports[i] i g.ports.length _ HL.out (by omega) (by omega)).mono ?_;rintro e w' ⟨rfl,hbb⟩;replace HB:=HB.trans hbb;clear hbb))
       go_ret;exact ⟨aA2 HF.out.symm,aA4 HB⟩
     | true =>
      have hge:=aCh hlt hok;have hd:decide (g.ports.length<=g.ports[i].length)=false:=by simp;omega
      have HOK:=aA0 hok
      go_wp2_with (first
       | (go_at_call 92;refine (aCk _ _ _ _).mono ?_;rintro e w' ⟨rfl,rfl⟩)
       | (go_at_call 97;refine (aJ2 _ _ g.ports[i] i g.ports.length _ HL.out (by omega) (by omega)).mono ?_;rintro e w' ⟨rfl,hbb⟩;replace HB:=HB.trans hbb;clear hbb hb hb' hid hrow;clear HL b0 b1 bs;have b0:=aA9 HB 0 rfl;have b1:=aA9 HB 1 rfl;have bs:=aAx HB))
      clear hok hin hd hd0 hge hle
      go_loopg [5] i (fun m x ws=>∃ j:Nat,j<=i/\m=i-j/\Hid (∀ q,(hq:q<j)->(hq':q<g.ids.length)->g.ids[q]≠g.ids[i])/\x = .int .i64 j/\Bel (w.alloc (.cells #[.slice (some ⟨b,o,none⟩) g.ports.length k,.slice (some ⟨b',o',none⟩) g.ports.length k2] 29)) ws)
      case atStart=>exact ⟨0,by omega,rfl,fun q hq=>absurd hq (by omega),rfl,HB⟩
      case round =>
       clear HB b0 b1 bs;obtain ⟨j,hj,rfl,HJ,rfl,HB⟩:=hrel;have b0:=aA9 HB 0 rfl;have bs:=aAx HB
       by_cases hlt2:j<i
       .have hji:j<g.ids.length:=by omega
        have hjn:j<g.ports.length:=by omega
        obtain ⟨b2,o2,e2,hb2,hj1⟩:=(HI.out _ (aA4 HB)).at_ j hji;obtain ⟨rfl,rfl⟩:b=b2/\o=o2:=by simpa using e2
        obtain ⟨b2,o2,e2,_,hi1⟩:=(HI.out _ (aA4 HB)).at_ i hlt';obtain ⟨rfl,rfl⟩:b=b2/\o=o2:=by simpa using e2
        clear e2;have hd:decide (j<i)=true:=by simpa using hlt2
        go_wp2
        go_quiet (fail)
        go_wp2
        .have he:(g.ids[j]==g.ids[i])=true:=by assumption
         go_ret;refine ⟨aA2 ?_,(aA4 HB).drewN _⟩
         symm
         refine aDt fun hg=>?_
         exact aEq hlt2 hlt' (by simpa using he) hg.idn
        .have he:(g.ids[j]==g.ids[i])=false:=by assumption
         go_roundg (i-(j+1))
         case rel =>
          refine ⟨j+1,by omega,rfl,?_,by go_num,HB.drewN _⟩
          intro q hq hq'
          rcases Nat.lt_or_ge q j with h | h
          .exact HJ.out q h hq'
          .obtain rfl:q=j:=by omega
           simpa using he
         case measure=>omega
       .have hd:decide (j<i)=false:=by simpa using hlt2
        go_wp2
        go_roundg (g.ports.length-(i+1))
        case rel =>
         refine ⟨i+1,by omega,rfl,⟨aAb hlt' HK.out.1 HIO.out,aE0 hlt' HK.out.2.1 (fun q hq=>HJ.out q (by omega) (by omega)),?_⟩,by go_num,HB⟩
         intro q hq hq'
         rcases Nat.lt_or_ge q i with h | h
         .exact HK.out.2.2 q h hq'
         .obtain rfl:q=i:=by omega
          exact HOK.out
        case measure=>omega
   .have hd0:decide (i<g.ports.length)=false:=by simpa using hlt
    have HK1:Hid (g.ids.all (fun i=>decide (0<=i/\i<=255))=true/\g.ids.Nodup/\∀ q,(hq:q<g.ports.length)->aCt g.ports.length q g.ports[q]=true):=by
     obtain ⟨a1,a2,a3⟩:=HK.out;rw [List.take_of_length_le (by rw [HN.out];omega)] at a1 a2
     exact ⟨a1,a2,fun q hq=>a3 q (by omega) hq⟩
    clear HK;go_wp2;clear hd0
    go_loopg [6,7,8,9] g.ports.length (fun m x _y _z _u ws=>∃ j:Nat,j<=g.ports.length/\m=g.ports.length-j/\Hid (∀ q,q<j->(hq:q<g.ports.length)->∀ l∈g.ports[q],aFy g q l=true)/\x = .int .i64 j/\Bel (w.alloc (.cells #[.slice A g.ports.length k,.slice A2 g.ports.length k2] 29)) ws)
    case atStart=>exact ⟨0,by omega,rfl,fun q hq=>absurd hq (by omega),rfl,HB⟩
    case round =>
     clear HB b0 b1 bs hlt hi;obtain ⟨v,hv,rfl,HQ,rfl,HB⟩:=hrel
     by_cases hlt:v<g.ports.length
     .have hd0:decide (v<g.ports.length)=true:=by simpa using hlt
      go_wp2;clear hd0
      go_loopg [7,8,9] g.ports[v].length (fun m x _y _z ws=>∃ j:Nat,j<=g.ports[v].length/\m=g.ports[v].length-j/\Hid ((g.ports[v].take j).all (aFy g v)=true)/\x = .int .i64 j/\Bel (w.alloc (.cells #[.slice A g.ports.length k,.slice A2 g.ports.length k2] 29)) ws)
      case atStart=>exact ⟨0,by omega,rfl,rfl,rfl,HB⟩
      case round =>
       clear HB;obtain ⟨j,hj,rfl,HJ,rfl,HB⟩:=hrel;have b0:=aA9 HB 0 rfl;have b1:=aA9 HB 1 rfl;have bs:=aAx HB;obtain ⟨b',o',R,c',rfl,hb',hrow,hL,_,_⟩:=(HP.out _ (aA4 HB)).at_ v hlt;have hle:=HL3.out g.ports[v] (List.getElem_mem hlt)
       by_cases hlt2:j<g.ports[v].length
       .obtain ⟨b2,o2,rfl,hb2,hto,hwe⟩:=hL.at_ j hlt2
        obtain ⟨hv1,hv2⟩:=aBj.1 (HK1.out.2.2 v hlt);obtain ⟨l1,l2,l3,l4,l5⟩:=aBt.1 (hv1 _ (List.getElem_mem hlt2));obtain ⟨t,ht⟩:=Int.eq_ofNat_of_zero_le l1;have htl:t<g.ports.length:=by omega
        have HBK:Hid (aFy g v g.ports[v][j]=(g.ports[t].any fun k=>k.to==(v:Int)&&k.weight==g.ports[v][j].weight)):=by
         show aFy g v g.ports[v][j]=_
         unfold aFy;rw [ht,Int.toNat_natCast,aAa htl]
        have hnd:=(aBj.1 (HK1.out.2.2 t htl)).2;rw [ht] at hto;have HB2:=HB.alloc (.cells #[.int .i64 (t:Int),.int .i64 g.ports[v][j].weight] 102);clear hL hv1 hv2 l1 l2 l3 ht
        go_wp2_with fail
        refine (aOx _ g t (v:Int) _ (HG.out _ (aA4 HB2)) htl).mono ?_
        rintro e w2 ⟨rfl,hbb⟩;have bx0:=aA9 hbb 0 rfl;have bx1:=aA9 hbb 1 rfl;have bxs:=aAx hbb;have hbw:=aA4 hbb;have b1':=(hbw.cell bs).trans b1;have hrange:=aNi g.ports[t] (v:Int)
        by_cases hk:aDj g.ports[t] (v:Int)<0
        .have hd1:decide (aDj g.ports[t] (v:Int)<0)=true:=by simpa using hk
         have HF:Hid (aEa g=false):=aDt fun hg=>by
          have:=hg.back v hlt _ (List.getElem_mem hlt2);rw [HBK.out,aWj hk] at this;cases this
         go_wp2_with fail
         go_quiet (fail)
         go_wp2_with fail
         go_ret;exact ⟨aA2 HF.out.symm,((aA4 HB).trans hbw).drewN _⟩
        .obtain ⟨q,hq,hqe,hqt⟩:=aVn (Int.not_lt.1 hk)
         rw [hqe];have hd1:decide ((q:Int)<0)=false:=by simp
         have HW1:=aA0 (aSl (x:=g.ports[v][j].weight) hnd q hq hqt);obtain ⟨b4,o4,R4,c4,e4,hb4,hrow4,hL4,_,_⟩:=(HP.out _ ((aA4 HB).trans hbw)).at_ t htl;obtain ⟨rfl,rfl⟩:b'=b4/\o'=o4:=by simpa using e4
         obtain ⟨b5,o5,rfl,hb5,_,hwe5⟩:=hL4.at_ q hq;have hd2:decide (t<g.ports.length)=true:=by simpa using htl
         clear e4 hL4 hk hrange hqe hqt hnd
         go_wp2_with fail
         go_quiet (fail)
         go_wp2_with fail
         .have he:(g.ports[t][q].weight != g.ports[v][j].weight)=true:=by assumption
          go_ret;refine ⟨aA2 ?_,((aA4 HB).trans hbw).drewN _⟩
          symm
          refine aDt fun hg=>?_
          have:=hg.back v hlt _ (List.getElem_mem hlt2);rw [HBK.out,HW1.out] at this;simp at this he
          exact he this
         .have he:(g.ports[t][q].weight != g.ports[v][j].weight)=false:=by assumption
          go_roundg (g.ports[v].length-(j+1))
          case rel =>
           refine ⟨j+1,by omega,rfl,aAb hlt2 HJ.out ?_,by go_num,(HB.trans hbw).drewN _⟩
           rw [HBK.out,HW1.out];simpa using he
          case measure=>omega
       .go_wp2
        go_roundg (g.ports.length-(v+1))
        case rel =>
         refine ⟨v+1,by omega,rfl,?_,by go_num,HB⟩
         intro q hq hq'
         rcases Nat.lt_or_ge q v with h | h
         .exact HQ.out q h hq'
         .obtain rfl:q=v:=by omega
          exact List.all_eq_true.1 (aAq (by omega) HJ.out)
        case measure=>omega
     .have hd0:decide (v<g.ports.length)=false:=by simpa using hlt
      go_wp2;go_ret;refine ⟨aA2 ?_,aA4 HB⟩
      symm
      rw [aEe];refine ⟨hn1,hn2,HN.out,?_,HK1.out.2.1,HK1.out.2.2,fun q hq=>HQ.out q (by omega) hq⟩
      intro i hi
      have:=List.all_eq_true.1 HK1.out.1 i hi;simpa using this
 .have HF:Hid (aEa g=false):=aDt fun hg=>hn ⟨hg.pos,hg.le,hg.ids⟩
  by_cases hn2:1<=g.ports.length/\g.ports.length<=24
  .have hb1:inB (g.ports.length:Int) 1 24=true:=aDm (by omega) (by omega)
   have hb2:(g.ids.length != g.ports.length)=true:=by simp;omega
   have hb3:((g.ids.length:Int) != (g.ports.length:Int))=true:=by simp;omega
   go_enter func72,ntmps72
   go_wp2_with (go_at_call 92;refine (aCk _ _ _ _).mono ?_;rintro e w' ⟨rfl,rfl⟩)
   go_ret;exact ⟨aA2 HF.out.symm,(Bel.refl _).alloc _⟩
  .have hb1:inB (g.ports.length:Int) 1 24=false:=aHz (by omega)
   go_enter func72,ntmps72
   go_wp2_with (go_at_call 92;refine (aCk _ _ _ _).mono ?_;rintro e w' ⟨rfl,rfl⟩)
   go_ret;exact ⟨aA2 HF.out.symm,(Bel.refl _).alloc _⟩
def bBd (md:Region.Mode) (ops:Array Oper) (i:Nat):Option Nat :=
 (List.range ops.size).find? fun j=>match ops[j]? with | some o=>o.after.any (fun e=>Region.binds md e&&e.on==i) | none=>false
def aHi (md:Region.Mode) (ops:Array Oper) (L:Nat):Nat->Nat->List Nat
 | 0,_=>[]
 | n+1,i=>match bBd md ops i with | none=>[] | some j=>j :: (if j==L then [] else aHi md ops L n j)
theorem aA6.takeC {P:Program} {ops:Array Oper} {Q:Exit->Act->World->Prop} {md:Region.Mode} {S:World->Prop} {L:Nat} {i:Nat} {oi:Oper} {v:Value} {fuel:Nat} {listed:Array Bool} {a:Act} {w:World} (d:Option Tmp) (hi:ops[i]?=some oi) (hd:oi.dst=d)
  (hs:Region.noSelect ops=true) (hf:Region.free md ops listed i=true) (hr:(Region.ready md ops listed).contains i=true)
  (hc:((aHi md ops L 60 i).contains L&&aLy md ops i (aHi md ops L 60 i)&&aEo listed (aHi md ops L 60 i))=true)
  (hQ:∀ c a w,Q (.panic c) (a.put d v) w->Q (.panic c) a w) (hS:S w) (hy:YieldsIf P ops S oi v a)
  (h:aA6 P md ops Q S L fuel (listed.setIfInBounds i true) (a.put d v) w):aA6 P md ops Q S L (fuel+1) listed a w:=by
 rw [Bool.and_eq_true,Bool.and_eq_true] at hc;exact aA6.take (aHi md ops L 60 i) d hi hd hs hf hr hc.1.1 hc.1.2 hc.2 hQ hS hy h
theorem aA6.t {P:Program} {ops:Array Oper} {Q:Exit->Act->World->Prop} {md:Region.Mode} {S:World->Prop} {L:Nat} {oi:Oper} {v:Value} {fuel:Nat} {listed:Array Bool} {a:Act} {w:World} (i d:Nat) (hi:ops[i]?=some oi) (hd:oi.dst=some d)
  (hc:(Region.noSelect ops&&Region.free md ops listed i&&(Region.ready md ops listed).contains i&&((aHi md ops L 60 i).contains L&&aLy md ops i (aHi md ops L 60 i)&&aEo listed (aHi md ops L 60 i)))=true)
  (hQ:∀ c a w,Q (.panic c) (a.put (some d) v) w->Q (.panic c) a w) (hS:S w) (hy:YieldsIf P ops S oi v a)
  (h:aA6 P md ops Q S L fuel (listed.setIfInBounds i true) (a.put (some d) v) w):aA6 P md ops Q S L (fuel+1) listed a w:=by
 rw [Bool.and_eq_true,Bool.and_eq_true,Bool.and_eq_true] at hc;exact aA6.takeC (some d) hi hd hc.1.1.1 hc.1.1.2 hc.1.2 hc.2 hQ hS hy h
def aQ1:Op->Bool
 | .defer _=>false
 | _=>true
def aM5 (ops:Array Oper):Bool:=ops.all fun o=>aQ1 o.op
section
variable {P:Program} {ops:Array Oper} {Q:Exit->Act->World->Prop} {md:Region.Mode} {l n:Nat}
theorem bAs {o:Oper} (ho:aQ1 o.op=true) {a:Act} {w:World} {K K':Act->World->Prop} (hK:∀ a w,K a w->K' a w) (h:o.wp P a w K Q):o.wpIn (Fence.wide.inRound l) n P a w K' Q:=by
 refine ⟨fun _ _=>trivial,?_⟩
 rw [Oper.semAt_eq _ _ _ (fun c h=>by rw [h] at ho;cases ho)]
 unfold Oper.wp at h;generalize (execOp a.eval o).run P w=r at *;cases r with
 | ok x w' =>
  cases x with
  | value v=>exact hK _ _ h
  | skip=>exact hK _ _ h
  | defer d=>exact hK _ _ h
  | enter f args=>exact ⟨(fun hd=>by cases hd),(CallsIn.inRound l ((callsIn_wide (n:=n-1)).2 h)).mono (fun e w'' he=>by cases e <;> first | exact hK _ _ he | exact he)⟩
  | row r args=>exact ⟨(fun hd=>by cases hd),fun c cs _=>let ⟨v,w'',hr,hs⟩:=h c cs;⟨v,w'',hK _ _ hr,stepsIn_wide.2 hs⟩⟩
  | round lr f tmps assign body=>exact h.elim
  | _=>first | exact h | exact h.elim
 | halt x w'=>cases x <;> first | exact h | exact h.elim
theorem op_in {i:Nat} (hd:aM5 ops=true) (hq:¬ LetsOut Q) {a:Act} {w:World} {K K':Act->World->Prop} (hK:∀ a w,K a w->K' a w) (h:wpOp P ops Q i K a w):wpOpIn (Fence.wide.inRound l) n P ops Q i K' a w:=by
 unfold wpOp at h;unfold wpOpIn;cases ho:ops[i]? with
 | none=>simp only [ho] at h;exact hK _ _ h
 | some o =>
  simp only [ho] at h ⊢
  have hn:aQ1 o.op=true:=by
   unfold aM5 at hd;rw [Array.all_eq_true] at hd;obtain ⟨hi,e⟩:=Array.getElem?_eq_some_iff.1 ho;have:=hd i hi
   rwa [e] at this
  by_cases hw:Region.wanted o (yielded ops a.tmps)=true
  .rw [if_pos hw] at h ⊢;exact bAs hn hK (h.resolve_right (fun e=>hq e.2))
  .rw [if_neg hw] at h ⊢;exact ⟨fun _ _=>trivial,hK _ _ h⟩
theorem aZz (hd:aM5 ops=true) (hq:¬ LetsOut Q):∀ (fuel:Nat) (listed:Array Bool) (a:Act) (w:World),wpAny P md ops Q fuel listed a w->wpAnyIn (Fence.wide.inRound l) n P md ops Q fuel listed a w
 | 0,_,_,_,h=>h
 | fuel+1,_,_,_,h=>⟨h.1,fun i hi=>op_in hd hq (fun a w k=>aZz hd hq fuel _ a w k) (h.2 i hi)⟩
theorem aA6.startIn (S:World->Prop) (L:Nat) {id:Nat} {a:Act} {w:World} (hm:P.follows .mixedOrders=true) (hd:aM5 ops=true) (hq:¬ LetsOut Q)
  (h:aA6 P .any ops Q S L ops.size (Array.replicate ops.size false) a w.drew):(Code.region id ops true).wpIn (Fence.wide.inRound l) n P Q a w :=
 wpIn_region_any hm (aZz hd hq _ _ _ _ (aA6.any _ _ _ _ h))
end
section
variable {P:Program} {ops:Array Oper} {Q:Exit->Act->World->Prop} {md:Region.Mode} {S:World->Prop} {Ls:List Nat}
def aE8 (P:Program) (md:Region.Mode) (ops:Array Oper) (Q:Exit->Act->World->Prop) (S:World->Prop) (Ls:List Nat):Nat->Array Bool->Act->World->Prop
 | 0,listed,a,w=>Region.ready md ops listed=[]/\Q .normal a w
 | fuel+1,listed,a,w=>(Region.ready md ops listed=[]->Q .normal a w) /\
   ∀ i∈Region.ready md ops listed,wpOp P ops Q i (fun a' w'=>(i ∉ Ls->S w')/\aE8 P md ops Q S Ls fuel (listed.setIfInBounds i true) a' w') a w
theorem aE8.any:∀ (fuel:Nat) (listed:Array Bool) (a:Act) (w:World),aE8 P md ops Q S Ls fuel listed a w->wpAny P md ops Q fuel listed a w
 | 0,_,_,_,h=>h
 | fuel+1,_,_,_,h=>⟨h.1,fun i hi=>wpOp_mono (fun a' w' k=>aE8.any fuel _ a' w' k.2) (h.2 i hi)⟩
theorem aE8.first {i:Nat} {oi:Oper} {v:Value} (cs:List Nat) (hi:ops[i]?=some oi) (hsel:∀ (j:Nat) (o:Oper) cs b,ops[j]?=some o->o.op ≠ .select cs b)
  (hL:∀ l∈Ls,l∈cs) (hw:aLy md ops i cs=true)
  (hQ:∀ c a w,Q (.panic c) (a.put oi.dst v) w->Q (.panic c) a w) (fuel:Nat):∀ (listed:Array Bool) (a:Act) (w:World),
   (∀ j oj,ops[j]?=some oj->j≠i->listed.getD j true=false->(∀ e∈oj.after,Region.binds md e=true->e.on≠i)->oi.apart ops oj=true) ->
   i∈Region.ready md ops listed->aEo listed cs=true->YieldsIf P ops S oi v a->S w ->
   aE8 P md ops Q S Ls fuel (listed.setIfInBounds i true) (a.put oi.dst v) w->aE8 P md ops Q S Ls (fuel+1) listed a w:=by
 induction fuel with
 | zero =>
  intro listed a w _ hr _ hy hS H
  refine And.intro (fun h=>?_) (fun j hj=>?_)
  .rw [h] at hr;exact absurd hr (by simp)
  by_cases hji:j=i
  .subst hji;exact hy.wpOp hi hS ⟨fun _=>hS,H⟩
  .have:=ready_mono hj hji
   rw [H.1] at this;exact absurd this (by simp)
 | succ fuel ih =>
  intro listed a w hfree hr hun hy hS H
  refine And.intro (fun h=>?_) (fun j hj=>?_)
  .rw [h] at hr;exact absurd hr (by simp)
  by_cases hji:j=i
  .subst hji;exact hy.wpOp hi hS ⟨fun _=>hS,H⟩
  have hi0:=(mem_ready.1 hr).1;have hjc:=aRf hj cs i hi0 hw hun;have hjL:j ∉ Ls:=fun e=>hjc (hL j e);obtain ⟨hjun,oj,hoj,hall⟩:=mem_ready.1 hj
  have hnot:∀ e∈oj.after,Region.binds md e=true->e.on≠i:=fun e he hb heq=>by
   have h1:=hall e he hb;rw [heq] at h1
   rcases Nat.lt_or_ge i listed.size with h' | h'
   .simp [h'] at hi0 h1;rw [hi0] at h1;cases h1
   .simp [Array.getElem?_eq_none h'] at h1
  have h2:=wpOp_putIf hoj (hfree j oj hoj hji hjun hnot) (fun cs b=>hsel i oi cs b hi) (fun cs b=>hsel j oj cs b hoj) hQ hy (H.2 j (ready_mono hj hji));refine wpOp_mono (fun a' w' h3=>?_) h2
  obtain ⟨hy',hS',hrest⟩:=h3;have hs':=hS' hjL;refine ⟨fun _=>hs',ih _ a' w' ?_ (ready_mono hr (Ne.symm hji)) ?_ hy' hs' (by rw [Array.setIfInBounds_comm _ _ hji];exact hrest)⟩
  .intro k ok hk hki hunk hno
   refine hfree k ok hk hki ?_ hno
   by_cases hjk:j=k
   .subst hjk;exact hjun
   .rw [getD_set_ne true hjk] at hunk;exact hunk
  .unfold aEo at hun ⊢
   rw [List.all_eq_true] at hun ⊢;intro c hc
   rw [getD_set_ne true (show j≠c from fun e=>hjc (by rw [e];exact hc))]
   exact hun c hc
theorem aE8.t {L:Nat} {oi:Oper} {v:Value} {fuel:Nat} {listed:Array Bool} {a:Act} {w:World} (i d:Nat) (hi:ops[i]?=some oi) (hd:oi.dst=some d)
  (hc:(Region.noSelect ops&&Region.free md ops listed i&&(Region.ready md ops listed).contains i&&((L :: Ls).all (aHi md ops L 60 i).contains&&aLy md ops i (aHi md ops L 60 i)&&aEo listed (aHi md ops L 60 i)))=true)
  (hQ:∀ c a w,Q (.panic c) (a.put (some d) v) w->Q (.panic c) a w) (hS:S w) (hy:YieldsIf P ops S oi v a)
  (h:aE8 P md ops Q S (L :: Ls) fuel (listed.setIfInBounds i true) (a.put (some d) v) w):aE8 P md ops Q S (L :: Ls) (fuel+1) listed a w:=by
 rw [Bool.and_eq_true,Bool.and_eq_true,Bool.and_eq_true,Bool.and_eq_true,Bool.and_eq_true] at hc;exact aE8.first (aHi md ops L 60 i) hi (Region.noSelect_spec hc.1.1.1) (fun l hl=>by have:=List.all_eq_true.1 hc.2.1.1 l hl;simpa using this) hc.2.1.2 (by rw [hd];exact hQ) fuel listed a w (Region.free_spec hi hc.1.1.2) (by simpa using hc.1.2) hc.2.2 hy hS (by rw [hd];exact h)
theorem aE8.one {i:Nat} {o:Oper} {fuel:Nat} {listed:Array Bool} {a:Act} {w:World} (hr:Region.ready md ops listed=[i]) (ho:ops[i]?=some o)
  (h:∀ K':Act->World->Prop,Shut (∀ a w,(i ∉ Ls->S w)->aE8 P md ops Q S Ls fuel (listed.setIfInBounds i true) a w->K' a w)->if Region.wanted o (yielded ops a.tmps)=true then Oper.wp P o a w K' Q else K' (a.put o.dst undef) w) :
  aE8 P md ops Q S Ls (fuel+1) listed a w:=by
 refine And.intro (fun h=>by rw [h] at hr;exact absurd hr (by simp)) (fun j hj=>?_)
 rw [hr] at hj;obtain rfl:j=i:=by simpa using hj
 exact wpOp_step ho (fun K' hK=>h K' (fun a w hS hW=>hK a w ⟨hS,hW⟩))
theorem aE8.two {i j:Nat} {o o2:Oper} {fuel:Nat} {listed:Array Bool} {a:Act} {w:World} (hr:Region.ready md ops listed=[i,j]) (ho:ops[i]?=some o) (ho2:ops[j]?=some o2)
  (h:∀ K':Act->World->Prop,Shut (∀ a w,(i ∉ Ls->S w)->aE8 P md ops Q S Ls fuel (listed.setIfInBounds i true) a w->K' a w)->if Region.wanted o (yielded ops a.tmps)=true then Oper.wp P o a w K' Q else K' (a.put o.dst undef) w)
  (h2:∀ K':Act->World->Prop,Shut (∀ a w,(j ∉ Ls->S w)->aE8 P md ops Q S Ls fuel (listed.setIfInBounds j true) a w->K' a w)->if Region.wanted o2 (yielded ops a.tmps)=true then Oper.wp P o2 a w K' Q else K' (a.put o2.dst undef) w) :
  aE8 P md ops Q S Ls (fuel+1) listed a w:=by
 refine And.intro (fun h=>by rw [h] at hr;exact absurd hr (by simp)) (fun k hk=>?_)
 rw [hr] at hk;have hk':k=i∨k=j:=by simpa using hk
 rcases hk' with rfl | rfl
 .exact wpOp_step ho (fun K' hK=>h K' (fun a w hS hW=>hK a w ⟨hS,hW⟩))
 .exact wpOp_step ho2 (fun K' hK=>h2 K' (fun a w hS hW=>hK a w ⟨hS,hW⟩))
theorem aE8.done {listed:Array Bool} {a:Act} {w:World} (hr:Region.ready md ops listed=[]) (h:Q .normal a w):∀ fuel,aE8 P md ops Q S Ls fuel listed a w
 | 0=>⟨hr,h⟩
 | _+1=>⟨fun _=>h,by rw [hr];simp⟩
theorem aE8.start (S:World->Prop) (Ls:List Nat) {id:Nat} {a:Act} {w:World} (hm:P.follows .mixedOrders=true)
  (h:aE8 P .any ops Q S Ls ops.size (Array.replicate ops.size false) a w.drew):(Code.region id ops true).wp P Q a w :=
 wp_region_any hm (aE8.any _ _ _ _ h)
end
section
variable {P:Program} {ops:Array Oper} {Q:Exit->Act->World->Prop} {md:Region.Mode} {S:World->Prop} {L:Nat}
theorem aA6.two {i j:Nat} {o o2:Oper} {fuel:Nat} {listed:Array Bool} {a:Act} {w:World} (hr:Region.ready md ops listed=[i,j]) (ho:ops[i]?=some o) (ho2:ops[j]?=some o2)
  (h:∀ K':Act->World->Prop,Shut (∀ a w,(i≠L->S w)->aA6 P md ops Q S L fuel (listed.setIfInBounds i true) a w->K' a w)->if Region.wanted o (yielded ops a.tmps)=true then Oper.wp P o a w K' Q else K' (a.put o.dst undef) w)
  (h2:∀ K':Act->World->Prop,Shut (∀ a w,(j≠L->S w)->aA6 P md ops Q S L fuel (listed.setIfInBounds j true) a w->K' a w)->if Region.wanted o2 (yielded ops a.tmps)=true then Oper.wp P o2 a w K' Q else K' (a.put o2.dst undef) w) :
  aA6 P md ops Q S L (fuel+1) listed a w:=by
 refine And.intro (fun h=>by rw [h] at hr;exact absurd hr (by simp)) (fun k hk=>?_)
 rw [hr] at hk;have hk':k=i∨k=j:=by simpa using hk
 rcases hk' with rfl | rfl
 .exact wpOp_step ho (fun K' hK=>h K' (fun a w hS hW=>hK a w ⟨hS,hW⟩))
 .exact wpOp_step ho2 (fun K' hK=>h2 K' (fun a w hS hW=>hK a w ⟨hS,hW⟩))
theorem aA6.three {i j k:Nat} {o o2 o3:Oper} {fuel:Nat} {listed:Array Bool} {a:Act} {w:World} (hr:Region.ready md ops listed=[i,j,k]) (ho:ops[i]?=some o) (ho2:ops[j]?=some o2) (ho3:ops[k]?=some o3)
  (h:∀ K':Act->World->Prop,Shut (∀ a w,(i≠L->S w)->aA6 P md ops Q S L fuel (listed.setIfInBounds i true) a w->K' a w)->if Region.wanted o (yielded ops a.tmps)=true then Oper.wp P o a w K' Q else K' (a.put o.dst undef) w)
  (h2:∀ K':Act->World->Prop,Shut (∀ a w,(j≠L->S w)->aA6 P md ops Q S L fuel (listed.setIfInBounds j true) a w->K' a w)->if Region.wanted o2 (yielded ops a.tmps)=true then Oper.wp P o2 a w K' Q else K' (a.put o2.dst undef) w)
  (h3:∀ K':Act->World->Prop,Shut (∀ a w,(k≠L->S w)->aA6 P md ops Q S L fuel (listed.setIfInBounds k true) a w->K' a w)->if Region.wanted o3 (yielded ops a.tmps)=true then Oper.wp P o3 a w K' Q else K' (a.put o3.dst undef) w) :
  aA6 P md ops Q S L (fuel+1) listed a w:=by
 refine And.intro (fun h=>by rw [h] at hr;exact absurd hr (by simp)) (fun q hq=>?_)
 rw [hr] at hq;have hq':q=i∨q=j∨q=k:=by simpa using hq
 rcases hq' with rfl | rfl | rfl
 .exact wpOp_step ho (fun K' hK=>h K' (fun a w hS hW=>hK a w ⟨hS,hW⟩))
 .exact wpOp_step ho2 (fun K' hK=>h2 K' (fun a w hS hW=>hK a w ⟨hS,hW⟩))
 .exact wpOp_step ho3 (fun K' hK=>h3 K' (fun a w hS hW=>hK a w ⟨hS,hW⟩))
end
open Go.ChangeShapes Go.WideShapes Go.ChangeAt Go.RowKit Go.Deep
theorem Tryz.own:ownKnob prog.godebug=none:=by kernel_rfl
theorem Tryz.laidOut:laidOutB prog=true:=by kernel_rfl
theorem Tryz.cells_int:prog.cellsOf 3=1:=by kernel_rfl
section
variable {H:Type} {enc:TypeId × Value->H} {P:Program} {w:World} {base:Nat} {spare:Nat->Bool} {held:Bool}
theorem aYs {w:World} {a:Addr} {v:Value} (h:w.cell? a=some v):a.block<w.heap.size/\a.spot=none:=by
 unfold World.cell? at h;split at h
 .rename_i c e f hh
  refine ⟨?_,?_⟩
  .rcases Nat.lt_or_ge a.block w.heap.size with hlt | hge
   .exact hlt
   .rw [Array.getElem?_eq_none hge] at hh;cases hh
  .cases hs:a.spot with
   | none=>rfl
   | some s=>rw [hs] at h;simp at h
 .cases h
theorem aTr {b o k:Nat}:(⟨b,o,none⟩:Addr).add k=⟨b,o+k,none⟩:=by
 unfold Addr.add;split
 .rename_i h;subst h;rfl
 .rfl
theorem aJj {α:Type} [Inhabited α] {t e:TypeId} {size:Nat} {E:World->Nat->Nat->α->Prop} {Good:α->Prop} (ht:P.underlying t=some (.slice e)) (hC:P.cellsOf e=size) (hsz:0<size)
  (hE:∀ n cs y b o,(∀ j,j<size->w.cell? ⟨b,o+j,none⟩=cs[j]?)->cs.length=size->DataW.trod enc P w base spare held n e cs=some y->∃ x,E w b o x/\Good x)
  {fuel:Nat} {cs:List Value} {x:DataW H × List MemPlace} (h:DataW.trod enc P w base spare held fuel t cs=some x) :
  ∃ (A:Option Addr) (n c:Nat) (xs:List α),cs=[.slice A n c]/\aAf size E w A n xs/\(∀ x∈xs,Good x)/\n<=c/\c<=maxLen:=by
 rcases open_slice ht h with ⟨hcs,_⟩ | ⟨a,len,cap,m,n,D,Pl,hcs,hb,hl,hm,hmm,hx,hi⟩
 .exact ⟨none,0,0,[],hcs,aAf.nil,fun _ h=>by simp at h,Nat.le_refl _,by unfold maxLen;omega⟩
 .have hlm:len<=m:=by rw [hmm];split <;> omega
  rw [hC] at hi
  rcases Nat.eq_zero_or_pos len with h0 | h0
  .subst h0
   exact ⟨some a,0,cap,[],hcs,aAf.nil,fun _ h=>by simp at h,hl,hm⟩
  .have ha:a=⟨a.block,a.off,none⟩/\a.block<w.heap.size:=by
    obtain ⟨cs',hc,_⟩:=hi 0 (by omega)
    obtain ⟨_,hcl,hat⟩:=World.cells?_some hc;have h1:=hat 0 (by omega)
    rw [List.getElem?_eq_getElem (by omega)] at h1
    simp [Addr.add] at h1
    obtain ⟨h2,h3⟩:=aYs h1;exact ⟨by rw [<- h3],h2⟩
   obtain ⟨hae,hab⟩:=ha;generalize a.block=b at *;generalize a.off=o at *;subst hae
   have hch:∀ i,i<len->∃ x,E w b (o+i*size) x/\Good x:=by
    intro i hi'
    obtain ⟨cs',hc,htr⟩:=hi i (by omega)
    obtain ⟨_,hcl,hat⟩:=World.cells?_some hc;refine hE n cs' _ b (o+i*size) (fun j hj=>?_) hcl htr
    have:=hat j hj;rw [aTr,aTr] at this;exact this
   obtain ⟨f,hf⟩:=choose_lt hch;refine ⟨some ⟨b,o,none⟩,len,cap,(List.range len).map f,hcs,⟨by simp,fun i x hx=>?_⟩,fun x hx=>?_,hl,hm⟩
   .have hil:i<len:=by
     have:=(List.getElem?_eq_some_iff.1 hx).1;simpa using this
    rw [List.getElem?_map,List.getElem?_range hil] at hx;simp at hx
    subst hx;exact ⟨b,o,rfl,hab,(hf i hil).1⟩
   .obtain ⟨i,hi',rfl⟩:=List.mem_map.1 hx
    exact (hf i (List.mem_range.1 hi')).2
def aW6 (x:Int):Prop := -9223372036854775808<=x/\x<=9223372036854775807
theorem aJe {x:Int} (h:(Lit.int .i64 x).wf=true):aW6 x:=by
 simpa [aW6,Lit.wf,IntKind.min,IntKind.max,IntKind.signed,IntKind.bits] using h
theorem aTf {e:TypeId} (he:P.underlying e=some (.int .i64)):∀ n cs y b o,(∀ j,j<1->w.cell? ⟨b,o+j,none⟩=cs[j]?)->cs.length=1->DataW.trod enc P w base spare held n e cs=some y->∃ x,aHn w b o x/\aW6 x:=by
 intro n cs y b o hat hl h
 obtain ⟨x,rfl,_,hwf⟩:=DataW.trod_int he h;refine ⟨x,?_,aJe hwf⟩
 have:=hat 0 (by omega)
 simpa [aHn] using this
end
section
variable {H:Type} {enc:TypeId × Value->H} {P:Program}
theorem aKl (hl:laidOutB P=true) {W W':World} {sp:Nat->Bool} (hb:Below W.heap.size W W'):∀ {ts:List TypeId} {vs:List Value} {ds:List (DataW H)} {ps:List MemPlace},
  (∀ t∈ts,P.readableRec t=true/\t<P.types.size)->DataW.TrodAll enc P W 0 (fun _=>true) true ts vs ds ps->(∀ x∈ps,x.block<W.heap.size)->(∀ x∈ps,sp x.block=true)->DataW.TrodAll enc P W' 0 sp true ts vs ds ps
 | [],vs,ds,ps,_,h,_,_=>by
  obtain ⟨rfl,rfl,rfl⟩:=trodAll_nil h;exact trodAll_mk0
 | t :: ts,vs,ds,ps,hr,h,hlt,hsp=>by
  obtain ⟨v,vs',d,ds',p,q,rfl,rfl,rfl,hd,hrest⟩:=trodAll_cons h;refine trodAll_cons_mk ?_ (aKl hl hb (fun t ht=>hr t (by simp [ht])) hrest (fun x hx=>hlt x (by simp [hx])) (fun x hx=>hsp x (by simp [hx])))
  exact WideElems.Trod_stays hl (hr t (by simp)).1 (hr t (by simp)).2 hd (fun x hx=>hb.same (hlt x (by simp [hx]))) (fun x hx=>hsp x (by simp [hx]))
theorem aZ7 {f:Func} {s:ChangeSpec} {apart fresh handsOn again:Bool} {W W':World} {args:Array Value} {ds gs:List (DataW H)} {before:List MemPlace} {tb:TypeId}
  (hl:laidOutB P=true) (hvs:s.vars=[]) (hr0:(f.params.toList.all fun t=>P.readableRec t&&decide (t<P.types.size))=true) (hres:f.resultTypes=#[tb]) (htb:P.underlying tb=some .bool)
  (hW:DataW.Whole enc P f.params.toList s.vars apart W args.toList ds gs before)
  (hfn:(s.fn H (ds++gs)).results=[.lit (.bool true)]/\(s.fn H (ds++gs)).args=ds/\(s.fn H (ds++gs)).vars=[])
  (hb:Bel W W'):s.post enc P f apart fresh handsOn again W args (.bool true) W':=by
 have hr:∀ t∈f.params.toList,P.readableRec t=true/\t<P.types.size:=fun t ht=>by
  have:=List.all_eq_true.1 hr0 t ht;simpa using this
 have hb':Below W.heap.size W W':=hb;have hlt:∀ p∈before,p.block<W.heap.size:=fun p hp=>hW.lt p hp;have hold:∀ p∈before,(fun b=>decide (b<W.heap.size)) p.block=true:=fun p hp=>by simpa using hlt p hp
 have hWh:=hW;obtain ⟨pa,pv,hA,hV,hps,hz,hn⟩:=hW;rw [hvs] at hV;obtain ⟨hg,hpv⟩:=trodVars_none hV;subst hg;subst hpv;have hps':before=pa:=by simpa using hps
 subst hps'
 have hargs:∀ sp:Nat->Bool,(∀ p∈before,sp p.block=true)->DataW.TrodAll enc P W' 0 sp true f.params.toList args.toList (s.fn H (ds++[])).args before:=fun sp hsp=>by
  rw [hfn.2.1];exact aKl hl hb' hr hA hlt hsp
 have hvars:∀ sp:Nat->Bool,DataW.TrodVars enc P W' sp s.vars (s.fn H (ds++[])).vars []:=fun sp=>by
  rw [hvs,hfn.2.2];exact rfl
 have hresT:∀ (b:Nat) (sp:Nat->Bool) (hd:Bool),DataW.TrodAll enc P W' b sp hd f.resultTypes.toList ((Value.bool true).resultList f.resultTypes.size) (s.fn H (ds++[])).results []:=fun b sp hd=>by
  rw [hres,hfn.1];exact trodAll_cons_mk (shut_bool htb _) trodAll_mk0
 refine ⟨ds,[],before,[],before,[],hWh,hresT _ _ _,hargs _ hold,hvars _,World.keptBut_mono (fun p hp=>⟨hp,?_⟩) (hb'.frame (·∈before)),fun _=>?_⟩
 .right;simpa using hp
 .refine ⟨ok_one hres rfl (okWide_bool_mk htb _),_,_,([]++before)++[],⟨[]++before,[],trodAll_append (hargs _ (fun _ _=>rfl)) (hresT _ _ _),hvars _,rfl,?_,?_⟩,?_⟩
  .intro b off hp
   have hin:MemPlace.cell b off∈before:=by simpa using hp
   rw [hb'.frozen (hlt _ hin)];exact hz b off hin
  .intro ha
   have:=hn ha;simpa using this
  .intro p hp _
   simpa using hp
end
theorem Tryz.cells_term:prog.cellsOf 98=2:=by kernel_rfl
def GoodT (t:Term):Prop:=aW6 t.op/\aW6 t.arg
theorem aDe {H:Type} {enc:TypeId × Value->H} {P:Program} {w:World} {base:Nat} {spare:Nat->Bool} {held:Bool} {m i n:Nat} {f:TypeId} {cs us:List Value} {xs:List (DataW H × List MemPlace)}
  (h:DataW.trod enc P w base spare held m f cs=xs[i]?) (hl:xs.length=n) (hi:i<n) (hcs:cs=us):∃ y,DataW.trod enc P w base spare held m f us=some y:=by
 subst hcs;rw [List.getElem?_eq_getElem (by omega)] at h
 exact ⟨_,h⟩
theorem aRk {H:Type} {enc:TypeId × Value->H} {w:World} {base:Nat} {spare:Nat->Bool} {held:Bool}:∀ n cs y b o,(∀ j,j<2->w.cell? ⟨b,o+j,none⟩=cs[j]?)->cs.length=2->DataW.trod enc prog w base spare held n 98 cs=some y->∃ x,aIv w b o x/\GoodT x:=by
 intro n cs y b o hat hl h
 obtain ⟨xs,m,_,_,_,hxl,hf⟩:=DataW.trod_struct underlying98 h
 match cs,hl with
 | [u,v],_ =>
  obtain ⟨y0,h0⟩:=aDe (us:=[u]) (hf 0 _ rfl) hxl (by decide) (by simp [Tryz.cells_int])
  obtain ⟨y1,h1⟩:=aDe (us:=[v]) (hf 1 _ rfl) hxl (by decide) (by simp [Tryz.cells_int])
  obtain ⟨x0,hx0,_,wf0⟩:=DataW.trod_int underlying3 h0;obtain ⟨x1,hx1,_,wf1⟩:=DataW.trod_int underlying3 h1;simp at hx0 hx1
  subst hx0;subst hx1;exact ⟨⟨x0,x1⟩,⟨by simpa using hat 0 (by omega),by simpa using hat 1 (by omega)⟩,aJe wf0,aJe wf1⟩
end Go.Proofs.YtdcjnhoabbdanaaGreatDoor

