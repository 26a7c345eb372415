/- Merged. -/
import Derived.Test.YtmoebklkkjbigaaGreatDoorZ33
import Derived.Tactics2
import Derived.Defers
import Derived.Recover
import Derived.Laws.Pointers
import Derived.Test.YtmoebklkkjbigaaGreatDoorZ28
set_option linter.unusedSimpArgs false
set_option linter.unnecessarySimpa false
set_option linter.unusedVariables false
set_option maxRecDepth 100000
set_option maxHeartbeats 4000000
open Go.Proofs.Tryz

namespace Go.Proofs.YtmoebklkkjbigaaGreatDoor
theorem aCp (b:Bool):(aB6 b != 0)=b:=by cases b <;> rfl
theorem aTo (b:Bool):(aB6 b==0) = !b:=by cases b <;> rfl
theorem aOe (b:Bool):aZj (aB6 b)=aB6 b:=by cases b <;> decide
theorem aU3 (a b:Int):aBm 41 a b=aB6 (a != 0&&b != 0):=by
 show aZj (aB6 _)=_
 exact aOe _
theorem bP8 (a b:Int):aBm 35 a b=aB6 (a==b):=by
 show aZj (aB6 _)=_
 exact aOe _
theorem bP9 (a b:Int):aBm 36 a b=aB6 (a != b):=by
 show aZj (aB6 _)=_
 exact aOe _
theorem bK6 (a:Int):aIt 19 a=aB6 (a==0):=rfl
def aDc (c:aA3) (v:Nat):Int:=(c.getD v []).getD 0 0
theorem aYl {p:Prg} {g:Graph} {c:aA3} (hm:aC4 p g c=0) {x:Var} (hp:p.vars=[x]) {v:Nat} (hv:v<c.length):c.getD v []=[aDc c v]/\(aAw x g v).1<=aDc c v/\aDc c v<=(aAw x g v).2:=by
 have h1:=aMb hm hv;obtain ⟨h2,h3⟩:=aCz.1 h1;have hl:(c.getD v []).length=1:=by rw [h2];unfold aJ3;rw [hp];rfl
 have h4:=h3 0 (by omega) (by unfold aJ3;rw [hp];simp)
 match hs:c.getD v [],hl with
 | [y],_ =>
  have e:aDc c v=y:=by unfold aDc;rw [hs];rfl
  rw [e];refine ⟨rfl,?_⟩
  have h5:(c.getD v [])[0]'(by omega)=y:=(List.getElem_of_eq hs (by omega)).trans rfl
  simp only [aJ3,hp,h5] at h4
  simpa using h4
theorem aPs {p:Prg} {g:Graph} {c:aA3} {v:Nat} {k:Nat} {r:Rule} {e:List Term} {y:Int} (hf:aAm p.rules g c v=(k:Int)) (hr:p.rules[k]?=some r) (hs:r.sets=[⟨0,e⟩]) (hc:c.getD v []=[y]):aHh p g c v=[aJv p g c v ⟨0,e⟩]:=by
 unfold aHh bDb;rw [hf,Int.toNat_natCast,List.getD_eq_getElem?_getD,hr];show aDx p g c v r.sets=_
 rw [hs];unfold aDx;rw [hc];rfl
theorem aV8 {p:Prg} {g:Graph} {c:aA3} {T v:Nat} (hv:v<c.length):aDc (aAf p g c T) v=if T.testBit v then (aHh p g c v).getD 0 0 else aDc c v:=by
 unfold aDc;rw [aN7 p g c T hv];split <;> rfl
theorem bCs {p:Prg} {g:Graph} {kind:Int} {n k:Nat} (hk:k<n):aA7 (lsF p g kind n) k=aFf p g kind (aAl p g k):=by
 unfold aA7;rw [aA8 (show k<(lsF p g kind n).length by rw [aE7];exact hk),bN2 p g kind hk]
theorem aM2 {p:Prg} {g:Graph} {kind:Int} {n k:Nat} (hf:aCw p g=0) (hn:aDn p g=(n:Int)) (hkd:aF1 kind=true) (h5:g.ports.length<=5) (hk:k<n) {a:Nat × Int} (ha:a∈aA7 (lsF p g kind n) k) :
  ∃ T,T∈(aB0 g kind (aAe p g (aAl p g k))).1/\a.1=T/\toK a<n/\aAl p g (toK a)=aAf p g (aAl p g k) T/\aC4 p g (aAl p g k)=0/\aC4 p g (aAf p g (aAl p g k) T)=0:=by
 rw [bCs hk] at ha;have hm:aC4 p g (aAl p g k)=0:=aDf hf (by omega)
 unfold aFf at ha;obtain ⟨T,hT,rfl⟩:=List.mem_map.1 ha;obtain ⟨_,_,t3⟩:=aLd hm hkd h5 hT;obtain ⟨r1,r2⟩:=aHs t3;refine ⟨T,hT,rfl,?_,aWv t3,hm,t3⟩
 show (bB0 p g (aAf p g (aAl p g k) T)).toNat<n
 omega
def aN2 (T:Nat):Nat:=(aAd T).length
theorem aNo (f:Nat->Bool):∀ n,((List.range n).filter f).length=aG0 n fun v=>if f v then 1 else 0
 | 0=>rfl
 | n+1=>by
  rw [List.range_succ,List.filter_append,List.length_append,aNo f n];simp only [aG0]
  cases h:f n <;> simp [h]
theorem aZ1 {n:Nat} {f:Nat->Nat} (h:∀ i,n<=i->f i=0):∀ m,aG0 (n+m) f=aG0 n f
 | 0=>rfl
 | m+1=>by
  show aG0 (n+m) f+f (n+m)=_
  rw [aZ1 h m,h _ (by omega)];rfl
theorem aRk {T n:Nat} (hn:n<=32) (hT:T<2 ^ n):aN2 T=aG0 n fun v=>if T.testBit v then 1 else 0:=by
 unfold aN2 aAd;rw [aNo]
 have h:=aZ1 (n:=n) (f:=fun v=>if T.testBit v then 1 else 0) (fun i hi=>by
  rw [Nat.testBit_lt_two_pow (Nat.lt_of_lt_of_le hT (Nat.pow_le_pow_right (by decide) hi))];rfl) (32-n)
 rw [show n+(32-n)=32 by omega] at h
 exact h
theorem bBa {T:Nat} (hT:T<4294967296) (h0:T≠0):1<=aN2 T:=by
 obtain ⟨v,m,e,hv,e1,e2,e3⟩:=aE2 hT h0;unfold aN2;rw [e3];simp
theorem aXf (r0 r1:Rule) (g:Graph) (c:aA3) (v:Nat):aAm [r0,r1] g c v=if aEu g c v r0.guard then 0 else if aEu g c v r1.guard then 1 else -1:=by
 unfold aAm;cases h0:aEu g c v r0.guard <;> cases h1:aEu g c v r1.guard <;> simp [List.findIdx?_cons,h0,h1]
def aRx (p:Prg) (g:Graph) (kind:Int) (n:Nat):Spc:=⟨esF p g n,lsF p g kind n⟩
theorem aM9 {p:Prg} {g:Graph} {kind:Int} {n:Nat} (hf:aCw p g=0) (hn:aDn p g=(n:Int)) (h2:n<=700) (hk:aF1 kind=true):aHo p g kind=(aRx p g kind n,0):=by
 have ht:aD3 p g=((n:Int),0):=by
  unfold aD3;rw [if_neg (by rw [hf];simp),if_neg (by omega),hn]
 unfold aHo;rw [ht];simp only [hk]
 unfold bDl aRx esF lsF;simp [hn]
theorem bEf {p:Prg} {g:Graph} {n k:Nat} (hk:k<n):(esF p g n).getD k 0=aAe p g (aAl p g k):=by
 unfold esF;simp [List.getD_eq_getElem?_getD,hk]
theorem bPd {p:Prg} {g:Graph} {n:Nat} (hf:aCw p g=0) (hn:aDn p g=(n:Int)) (h4:g.ports.length<=4) (k:Nat):(esF p g n).getD k 0<16:=by
 by_cases hk:k<n
 .rw [bEf hk]
  have hm:aC4 p g (aAl p g k)=0:=aDf hf (by omega)
  have:=aG9 hm;have h2:2 ^ g.ports.length<=2 ^ 4:=Nat.pow_le_pow_right (by decide) h4
  omega
 .rw [List.getD_eq_getElem?_getD,List.getElem?_eq_none (by rw [aGi];omega)];decide
theorem aPy {p:Prg} {g:Graph} {kind:Int} {n k:Nat} (hf:aCw p g=0) (hn:aDn p g=(n:Int)) (hk:aF1 kind=true) (h5:g.ports.length<=5) (hkn:k<n) (he:aAe p g (aAl p g k)≠0):0<(aA7 (lsF p g kind n) k).length:=by
 have hv:=aIh hf hn hk h5;unfold aCf at hv;simp only [Bool.and_eq_true,decide_eq_true_eq,List.all_eq_true,List.mem_range] at hv
 have h1:=hv.2 k (by rw [aGi];exact hkn)
 unfold aBu at h1;rw [Bool.and_eq_true,Bool.and_eq_true,bEf hkn] at h1;have h2:=h1.1.2;rw [beq_iff_eq] at h2;have h3:decide (aAe p g (aAl p g k)≠0)=true:=by simpa using he
 rw [h3] at h2;exact of_decide_eq_true h2.symm
open Go.RowKit
theorem bGi (T:Wd) (n:Nat) (N:List Wd) (V:List Var) (ts:List Tok):bBt T (n+1) N V ts=if aB8 T ts=[118,97,114] then (if V.length=6 then none else (varL T N ts.tail).bind fun (x,t1)=>bBt T n (N++[x.1]) (V++[x.2]) t1) else some ((N,V),ts):=rfl
theorem aRs (T:Wd) (N:List Wd) (n:Nat) (K:List Wd) (R:List Rule) (ts:List Tok):aN4 T N (n+1) K R ts=if aB8 T ts=[114,117,108,101] then (if R.length=12 then none else (bMj T N K ts.tail).bind fun (x,t1)=>aN4 T N n (K++[x.1]) (R++[x.2]) t1) else some (R,ts):=rfl
theorem aRr {T:Wd} {N:List Wd}:∀ {n:Nat} {K:List Wd} {R R':List Rule} {ts r:List Tok},aN4 T N n K R ts=some (R',r)->∃ M,R'=R++M
 | 0,K,R,R',ts,r,h=>by simp [aN4] at h
 | n+1,K,R,R',ts,r,h=>by
  rw [aRs] at h;split at h
  .split at h
   .cases h
   .rw [Option.bind_eq_some_iff] at h
    obtain ⟨⟨x,t1⟩,_,h⟩:=h;obtain ⟨M,hM⟩:=aRr h;exact ⟨_,by rw [hM,List.append_assoc]⟩
  .injection h with h;injection h with h1 _
   exact ⟨[],by rw [h1];simp⟩
theorem aQ2.fw {B:Nat} {w w':World} {v:Value} {L:List Rule} (h:aQ2 w (B+1) v L) (k:Fw B w.heap.size w w'):aQ2 w' (B+1) v L:=by
 obtain ⟨A,c,hs,e,h,hd⟩:=h;exact ⟨A,c,hs,e,aH9 h (Nat.lt_succ_self B) k,hd.keep (fun _ hx=>aH9 hx (Nat.lt_succ_self B) k)⟩
theorem aY2 {w:World} {B:Nat} {T:ByteArray} {ts r:List Tok} {v2 v3 v4 v5 v6:Value} {Nf:List Wd} {Vf:List Var} (h:RdX w B T ts v2 v3 v4 v5 v6) (hN:aS3 w (B+1) v2 []) (hV:aOq w (B+1) v4 []) {n0:Nat} (hn0:n0<=w.heap.size) (hw2:Nw n0 v2) (hw4:Nw n0 v4) (hv:bBt (aA5 T) 10 [] [] ts=some ((Nf,Vf),r)) :
  Calls prog 58 #[.pointer (some ⟨B,0,none⟩),.string { data:=#[118,97,114] },.int .i64 6,.func (.func 59) #[.pointer (some ⟨B,0,none⟩)] #[]] w fun e w'=>(∃ x,e = .returned x)/\Agr (fun q=>q=B∨n0<=q) w w'/\∃ v2' v4',RdX w' B T r v2' v3 v4' v5 v6/\aS3 w' (B+1) v2' Nf/\aOq w' (B+1) v4' Vf/\Nw n0 v2'/\Nw n0 v4'/\Nf.length<=10/\Vf.length<=10:=by
 have hB:B<w.heap.size:=by obtain ⟨_,_,h⟩:=h;exact h.lt
 have HH:=aA0 h;have HN:=aA0 hN;have HV:=aA0 hV;have HW2:=aA0 hw2;have HW4:=aA0 hw4;have HSV:=aA0 hv;clear h hN hV hw2 hw4 hv;go_enter func58,ntmps58
 go_wp2_with fail
 go_loopg [8] 10 (fun m cv wr=>∃ (n:Nat) (N:List Wd) (V:List Var) (u2 u4:Value) (tk:List Tok),m=n/\cv = .int .i64 (V.length:Int)/\N.length+n<=10/\V.length+n<=10/\Hid (bBt (aA5 T) n N V tk=some ((Nf,Vf),r))/\Hid (RdX wr B T tk u2 v3 u4 v5 v6)/\Hid (aS3 wr (B+1) u2 N)/\Hid (aOq wr (B+1) u4 V)/\Hid (Nw n0 u2)/\Hid (Nw n0 u4)/\Hid (Agr (fun q=>q=B∨n0<=q) w wr))
 case atStart=>exact ⟨10,[],[],v2,v4,ts,rfl,rfl,by simp,by simp,HSV.out,HH.out,HN.out,HV.out,HW2.out,HW4.out,Agr.refl _ _⟩
 case round =>
  obtain ⟨n,N,V,u2,u4,tk,rfl,rfl,hNn,hVn,HSk,HXk,HNk,HVk,HW2k,HW4k,HAk⟩:=hrel
  obtain ⟨n,rfl⟩:∃ m,gk=m+1:=by
   match gk,HSk.out with
   | 0,h=>simp [bBt] at h
   | m+1,_=>exact ⟨m,rfl⟩
  have hss:=HSk.out;rw [bGi] at hss;clear HSk;have hszk:=HAk.out.size
  by_cases hp:aB8 (aA5 T) tk=[118,97,114]
  .rw [if_pos hp] at hss
   split at hss
   .cases hss
   .rename_i h6
    rw [Option.bind_eq_some_iff] at hss;obtain ⟨⟨⟨x,y⟩,t1⟩,hvar,hss⟩:=hss;dsimp only at hss;obtain ⟨t,r0,rfl⟩:=aNe (T:=aA5 T) (ts:=tk) (by rw [hp];simp)
    have HVAR:=aA0 hvar;have HSS:=aA0 hss;have HP:=aA0 hp;have d6:((V.length:Int)==6)=false:=by simp;omega
    have e1:IntKind.i64.wrap ((V.length:Int)+1)=((V.length+1:Nat):Int):=by rw [IntWalk.i64_in _ (by omega)];omega
    have hd:((ba [118,97,114]).toList==[118,97,114])=true:=by rw [aCu];rfl
    clear hvar hss hp h6
    go_wp2_with (first
     | (go_at_call 104;refine (aBz HXk.out).mono ?_;rintro e w1 ⟨rfl,hb⟩;rw [HP.out];have HX1:=aA0 (HXk.out.bel hb);have HB1:=aA0 hb;clear hb)
     | (go_at_call 107;refine (aEj HX1.out).mono ?_;rintro e w2 ⟨rfl,hb,hx⟩;have HX2:=aA0 hx;have HF2:=aA0 ((Fw.of_bel (B:=B) (n:=wr.heap.size) HB1.out).trans (Fw.of_but hb));clear hb hx)
     | (refine (aVg HX2.out (HNk.out.fw HF2.out) (HVk.out.fw HF2.out) (by omega) (by omega) (n0:=n0) (by have:=HF2.out.size;omega) HW2k.out HW4k.out HVAR.out).mono ?_;rintro e w3 ⟨⟨u,rfl⟩,ha,u2',u4',hx,hn',hv',h2',h4'⟩;have HX3:=aA0 hx;have HN3:=aA0 hn';have HV3:=aA0 hv';have HW23:=aA0 h2';have HW43:=aA0 h4';have HA3:=aA0 ((HAk.out.trans (HF2.out.mono (fun q e=>e.elim .inl (fun e => .inr (by omega))))).trans ha);clear ha hx hn' hv' h2' h4'))
    go_roundg n
    case rel=>exact ⟨n,N++[x],V++[y],u2',u4',t1,rfl,by simp,by simp;omega,by simp;omega,HSS.out,HX3.out,HN3.out,HV3.out,HW23.out,HW43.out,HA3.out⟩
    case measure=>omega
  .rw [if_neg hp] at hss
   injection hss with hss
   injection hss with hs1 hs2
   injection hs1 with hs1 hs3
   subst hs1;subst hs2;subst hs3;have hd:((ba (aB8 (aA5 T) tk)).toList==[118,97,114])=false:=by rw [aCu];simpa using hp
   clear hp
   go_wp2_with (go_at_call 104;refine (aBz HXk.out).mono ?_;rintro e w1 ⟨rfl,hb⟩;have HX1:=aA0 (HXk.out.bel hb);have HB1:=aA0 hb;clear hb)
   go_end0
   exact ⟨⟨_,rfl⟩,HAk.out.trans (bH2 HB1.out),u2,u4,HX1.out,HNk.out.fw (Fw.of_bel HB1.out),HVk.out.fw (Fw.of_bel HB1.out),HW2k.out,HW4k.out,by omega,by omega⟩
theorem aUp {w:World} {B:Nat} {T:ByteArray} {ts r:List Tok} {v2 v3 v4 v5 v6:Value} {N:List Wd} {V:List Var} {Rf:List Rule} (h:RdX w B T ts v2 v3 v4 v5 v6) (hN:aS3 w (B+1) v2 N) (hV:aOq w (B+1) v4 V) (hK:aS3 w (B+1) v6 []) (hR:aQ2 w (B+1) v5 []) (hap:aZk v2 v6) (hNl:N.length<=10) {n0:Nat} (hn0:n0<=w.heap.size) (hw5:Nw n0 v5) (hw6:Nw n0 v6) (hv:aN4 (aA5 T) N 20 [] [] ts=some (Rf,r)) (hsz:∀ y∈Rf,y.guard.length<=1000/\∀ s∈y.sets,s.value.length<=1000) :
  Calls prog 58 #[.pointer (some ⟨B,0,none⟩),.string { data:=#[114,117,108,101] },.int .i64 12,.func (.func 60) #[.pointer (some ⟨B,0,none⟩)] #[]] w fun e w'=>(∃ x,e = .returned x)/\Agr (fun q=>q=B∨n0<=q) w w'/\∃ v5' v6',RdX w' B T r v2 v3 v4 v5' v6'/\aOq w' (B+1) v4 V/\aQ2 w' (B+1) v5' Rf/\Rf.length<=20:=by
 have hB:B<w.heap.size:=by obtain ⟨_,_,h⟩:=h;exact h.lt
 have HH:=aA0 h;have HN:=aA0 hN;have HV:=aA0 hV;have HK:=aA0 hK;have HR:=aA0 hR;have HAP:=aA0 hap;have HW5:=aA0 hw5;have HW6:=aA0 hw6;have HSV:=aA0 hv;have HSZ:=aA0 hsz;clear h hN hV hK hR hap hw5 hw6 hv hsz;go_enter func58,ntmps58
 go_wp2_with fail
 go_loopg [8] 20 (fun m cv wr=>∃ (n:Nat) (K:List Wd) (R:List Rule) (u5 u6:Value) (tk:List Tok),m=n/\cv = .int .i64 (R.length:Int)/\K.length+n<=20/\R.length+n<=20/\Hid (aN4 (aA5 T) N n K R tk=some (Rf,r))/\Hid (RdX wr B T tk v2 v3 v4 u5 u6)/\Hid (aS3 wr (B+1) v2 N)/\Hid (aOq wr (B+1) v4 V)/\Hid (aS3 wr (B+1) u6 K)/\Hid (aQ2 wr (B+1) u5 R)/\Hid (aZk v2 u6)/\Hid (Nw n0 u5)/\Hid (Nw n0 u6)/\Hid (Agr (fun q=>q=B∨n0<=q) w wr))
 case atStart=>exact ⟨20,[],[],v5,v6,ts,rfl,rfl,by simp,by simp,HSV.out,HH.out,HN.out,HV.out,HK.out,HR.out,HAP.out,HW5.out,HW6.out,Agr.refl _ _⟩
 case round =>
  obtain ⟨n,K,R,u5,u6,tk,rfl,rfl,hKn,hRn,HSk,HXk,HNk,HVk,HKk,HRk,HAPk,HW5k,HW6k,HAk⟩:=hrel
  obtain ⟨n,rfl⟩:∃ m,gk=m+1:=by
   match gk,HSk.out with
   | 0,h=>simp [aN4] at h
   | m+1,_=>exact ⟨m,rfl⟩
  have hss:=HSk.out;rw [aRs] at hss;clear HSk;have hszk:=HAk.out.size
  by_cases hp:aB8 (aA5 T) tk=[114,117,108,101]
  .rw [if_pos hp] at hss
   split at hss
   .cases hss
   .rename_i h6
    rw [Option.bind_eq_some_iff] at hss;obtain ⟨⟨⟨x,y⟩,t1⟩,hvar,hss⟩:=hss;dsimp only at hss;obtain ⟨M,hM⟩:=aRr hss;have hy:=HSZ.out y (by rw [hM];simp)
    obtain ⟨t,r0,rfl⟩:=aNe (T:=aA5 T) (ts:=tk) (by rw [hp];simp)
    have HVAR:=aA0 hvar;have HSS:=aA0 hss;have HP:=aA0 hp;have HY:=aA0 hy;have d6:((R.length:Int)==12)=false:=by simp;omega
    have e1:IntKind.i64.wrap ((R.length:Int)+1)=((R.length+1:Nat):Int):=by rw [IntWalk.i64_in _ (by omega)];omega
    have hd:((ba [114,117,108,101]).toList==[114,117,108,101])=true:=by rw [aCu];rfl
    clear hvar hss hp h6 hM hy
    go_wp2_with (first
     | (go_at_call 104;refine (aBz HXk.out).mono ?_;rintro e w1 ⟨rfl,hb⟩;rw [HP.out];have HX1:=aA0 (HXk.out.bel hb);have HB1:=aA0 hb;clear hb)
     | (go_at_call 107;refine (aEj HX1.out).mono ?_;rintro e w2 ⟨rfl,hb,hx⟩;have HX2:=aA0 hx;have HF2:=aA0 ((Fw.of_bel (B:=B) (n:=wr.heap.size) HB1.out).trans (Fw.of_but hb));clear hb hx)
     | (refine (bJ7 HX2.out (HNk.out.fw HF2.out) (HVk.out.fw HF2.out) (HKk.out.fw HF2.out) (HRk.out.fw HF2.out) HAPk.out (by omega) (by omega) (by omega) HVAR.out (n0:=n0) (by have:=HF2.out.size;omega) HW5k.out HW6k.out HY.out.1 HY.out.2).mono ?_;rintro e w3 ⟨⟨u,rfl⟩,ha,u5',u6',hx,hn',hv',hk',hr',hap',h5',h6'⟩;have HX3:=aA0 hx;have HN3:=aA0 hn';have HV3:=aA0 hv';have HK3:=aA0 hk';have HR3:=aA0 hr';have HAP3:=aA0 hap';have HW53:=aA0 h5';have HW63:=aA0 h6';have HA3:=aA0 ((HAk.out.trans (HF2.out.mono (fun q e=>e.elim .inl (fun e => .inr (by omega))))).trans ha);clear ha hx hn' hv' hk' hr' hap' h5' h6'))
    go_roundg n
    case rel=>exact ⟨n,K++[x],R++[y],u5',u6',t1,rfl,by simp,by simp;omega,by simp;omega,HSS.out,HX3.out,HN3.out,HV3.out,HK3.out,HR3.out,HAP3.out,HW53.out,HW63.out,HA3.out⟩
    case measure=>omega
  .rw [if_neg hp] at hss
   injection hss with hss
   injection hss with hs1 hs2
   subst hs1;subst hs2;have hd:((ba (aB8 (aA5 T) tk)).toList==[114,117,108,101])=false:=by rw [aCu];simpa using hp
   clear hp
   go_wp2_with (go_at_call 104;refine (aBz HXk.out).mono ?_;rintro e w1 ⟨rfl,hb⟩;have HX1:=aA0 (HXk.out.bel hb);have HB1:=aA0 hb;clear hb)
   go_end0
   exact ⟨⟨_,rfl⟩,HAk.out.trans (bH2 HB1.out),u5,u6,HX1.out,HVk.out.fw (Fw.of_bel HB1.out),HRk.out.fw (Fw.of_bel HB1.out),by omega⟩
theorem bP3 (v:Value):aZk v (.slice none 0 0):=by
 unfold aZk;cases v.ownBlock with
 | none=>exact .inl rfl
 | some q=>right;simp [Value.ownBlock]
theorem bM7 {w:World} {B:Nat} {T:ByteArray} {ts:List Tok} {v3:Value} {p:Prg} (h:RdX w B T ts (.slice none 0 0) v3 (.slice none 0 0) (.slice none 0 0) (.slice none 0 0)) (hv:bKd (aA5 T) ts=some p) (hsz:∀ y∈p.rules,y.guard.length<=1000/\∀ s∈y.sets,s.value.length<=1000) :
  Calls prog 28 #[.pointer (some ⟨B,0,none⟩)] w fun e w'=>(∃ x,e = .returned x)/\Fw B w.heap.size w w'/\∃ v2 v4 v5 v6,RdX w' B T [] v2 (.string p.name) v4 v5 v6/\aOq w' (B+1) v4 p.vars/\aQ2 w' (B+1) v5 p.rules/\p.vars.length<=10/\p.rules.length<=20:=by
 have hB:B<w.heap.size:=by obtain ⟨_,_,h⟩:=h;exact h.lt
 unfold bKd at hv;rw [Option.bind_eq_some_iff] at hv;obtain ⟨t1,q1,hv⟩:=hv;rw [Option.bind_eq_some_iff] at hv;obtain ⟨⟨x,t2⟩,q2,hv⟩:=hv;dsimp only at hv;rw [Option.bind_eq_some_iff] at hv;obtain ⟨t3,q3,hv⟩:=hv;rw [Option.bind_eq_some_iff] at hv;obtain ⟨⟨⟨N,V⟩,t4⟩,q4,hv⟩:=hv;dsimp only at hv;rw [Option.bind_eq_some_iff] at hv;obtain ⟨⟨R,t5⟩,q5,hv⟩:=hv;dsimp only at hv;split at hv
 .rename_i h5
  injection hv with hv
  subst hv;subst h5;dsimp only at hsz;have HH:=aA0 h;have Q2:=aA0 q2;have Q4:=aA0 q4;have Q5:=aA0 q5;have HSZ:=aA0 hsz;have C1:=aA0 (fun (w0:World) (hx:RdX w0 B T ts (.slice none 0 0) v3 (.slice none 0 0) (.slice none 0 0) (.slice none 0 0))=>aC7 hx { data:=#[112,114,111,103,114,97,109] } (by decide) q1)
  have C3:=aA0 (fun (w0:World) (u:Value) (hx:RdX w0 B T t2 (.slice none 0 0) u (.slice none 0 0) (.slice none 0 0) (.slice none 0 0))=>aC7 hx { data:=#[59] } (by decide) q3)
  have hnw:Hid (∀ n,Nw n (.slice none 0 0)):=fun n k hk=>by cases hk
  have M1:=aA0 (fun (w0:World) (u3:Value) (hx:RdX w0 B T t3 (.slice none 0 0) u3 (.slice none 0 0) (.slice none 0 0) (.slice none 0 0)) (hle:w.heap.size<=w0.heap.size)=>aY2 hx ⟨none,0,rfl,World.ownsRow_nil _ _ _ _⟩ ⟨none,0,rfl,World.ownsRow_nil _ _ _ _⟩ hle (hnw.out _) (hnw.out _) q4);have M2:=aA0 (fun (w0:World) (u2 u3 u4:Value) (hx:RdX w0 B T t4 u2 u3 u4 (.slice none 0 0) (.slice none 0 0)) (hn:aS3 w0 (B+1) u2 N) (hv:aOq w0 (B+1) u4 V) (hl:N.length<=10) (hle:w.heap.size<=w0.heap.size)=>aUp hx hn hv ⟨none,0,rfl,World.ownsRow_nil _ _ _ _⟩ ⟨none,0,[],rfl,World.ownsRow_nil _ _ _ _,aJ6.nil _ _⟩ (bP3 _) hl hle (hnw.out _) (hnw.out _) q5 hsz);clear h q1 q2 q3 q4 q5 hsz;go_enter func28,ntmps28
  go_wp2_with (first
   | (go_at_call 56;(with_reducible refine (C1.out _ HH.out).mono ?_);rintro e w1 ⟨⟨u1,rfl⟩,hb,hx⟩;have HX1:=aA0 hx;have HF1:=aA0 (Fw.of_but (n:=w.heap.size) hb);clear hb hx)
   | (go_at_call 57;refine (aJp (K:=[]) HX1.out aAc.nil (by simp) Q2.out).mono ?_;rintro e w2 ⟨rfl,hb,hx⟩;obtain ⟨A2,k2,hr2⟩:=id hx;have y3:=hr2.blk.cell 3 (v:=v3) rfl;have f3:=hr2.blk.frozen 3;have l3:=hr2.blk.lt;have HX3:Hid (RdX (w2.setCell ⟨B,3,none⟩ (.string (ba x))) B T t2 (.slice none 0 0) (.string (ba x)) (.slice none 0 0) (.slice none 0 0) (.slice none 0 0)):=⟨A2,k2,hr2.put 3 (.string (ba x)) rfl⟩;have HF3:=aA0 ((HF1.out.trans (Fw.of_but hb)).trans (Agr.setCell (E:=fun q=>q=B∨w.heap.size<=q) w2 ⟨B,3,none⟩ (.string (ba x)) (.inl rfl)));clear hb hx hr2)
   | (go_at_call 56;(with_reducible refine (C3.out _ _ HX3.out).mono ?_);rintro e w4 ⟨⟨u4,rfl⟩,hb,hx⟩;have HX4:=aA0 hx;have HF4:=aA0 (HF3.out.trans (Fw.of_but hb));clear hb hx)
   | (go_at_call 58;(with_reducible refine (M1.out _ _ HX4.out HF4.out.size).mono ?_);rintro e w5 ⟨⟨u5,rfl⟩,ha,v2,v4,hx,hn,hv,h2,h4,hl1,hl2⟩;have HX5:=aA0 hx;have HN5:=aA0 hn;have HV5:=aA0 hv;have HF5:=aA0 (HF4.out.trans ha);clear ha hx hn hv h2 h4)
   | (go_at_call 58;(with_reducible refine (M2.out _ _ _ _ HX5.out HN5.out HV5.out hl1 HF5.out.size).mono ?_);rintro e w6 ⟨⟨u6,rfl⟩,ha,v5,v6,hx,hv,hr,hl3⟩;have HX6:=aA0 hx;have HV6:=aA0 hv;have HR6:=aA0 hr;have HF6:=aA0 (HF5.out.trans ha);clear ha hx hv hr)
   | (go_at_call 61;refine (bLb HX6.out).mono ?_;rintro e w7 ⟨rfl,rfl⟩))
  go_end0
  exact ⟨⟨_,rfl⟩,HF6.out,v2,v4,v5,v6,HX6.out,HV6.out,HR6.out,hl2,hl3⟩
 .cases hv
theorem aVk (w:World):Calls prog 55 #[.nilIface] w fun e w'=>e = .returned (.tuple #[.agg #[.int .i64 0,.int .i64 0],.bool false])/\Bel w w':=by
 go_enter func55,ntmps55;go_wp2;have hb:Blk (w.alloc (.cells #[.int .i64 0,.int .i64 0] 123)) w.heap.size #[.int .i64 0,.int .i64 0] 123:=aAx _ _;have y0:=hb.cell 0 (v := .int .i64 0) rfl;have y1:=hb.cell 1 (v := .int .i64 0) rfl;refine bodyPost_ret (v := .tuple #[.agg #[.int .i64 0,.int .i64 0],.bool false]) (by simp [results,Tryz.results55,go_sem,y0,y1]) rfl ⟨rfl,(Bel.refl w).alloc _⟩
theorem bLm (p q:Addr) (w:World) :
  CallsD prog 54 #[.pointer (some p),.pointer (some q)] .returning w fun e u' w'=>(∃ x,e = .returned x)/\u' = .returning/\Bel w w':=by
 refine callsD_of_wpS func54 rfl fun c₀ cs hu=>?_
 apply wpS_seq
 apply wpS_region
 simp [wpOpsS,go_sem,recoverD,hu,ntmps54,Exit.thenS]
 refine (aVk w).mono ?_
 rintro e w1 ⟨rfl,hb⟩;simp [go_sem]
 apply wpS_seq
 apply wpS_region
 simp [wpOpsS,go_sem,Exit.thenS]
 refine wpS_cond (t:=false) (by simp [Act.eval]) ?_
 simp only [Bool.false_eq_true,if_false]
 refine wpS_of_wp (wp_skip ?_)
 cases c₀
 simp_all [bodyPostS,results,Tryz.results54]
 exact hb.alloc _
theorem aQ2.keep {B:Nat} {w w':World} {v:Value} {L:List Rule} (h:aQ2 w (B+1) v L) (hk:aEk (B+1) w w') (hr:∀ {size n:Nat} {v:Value} {xs:List Value},w.ownsRow (B+1) 137 size v n xs->w'.ownsRow (B+1) 137 size v n xs):aQ2 w' (B+1) v L:=by
 obtain ⟨A,c,hs,e,h,hd⟩:=h;exact ⟨A,c,hs,e,hr h,hd.keep hk⟩
theorem aQ2.setB {B X:Nat} {t:TypeId} {cs:Array Value} {w:World} {v:Value} {L:List Rule} (h:aQ2 w (B+1) v L) (hb:Blk w X cs t) (h1:t≠235) (h2:t≠197) (h3:t≠137) (i:Nat) (u:Value):aQ2 (w.setCell ⟨X,i,none⟩ u) (B+1) v L :=
 h.keep (fun he hx=>aDa hx hb (by rcases he with rfl | rfl;exact h1;exact h2) i u) (fun hx=>aDa hx hb h3 i u)
theorem aOq.setB {B X:Nat} {t:TypeId} {cs:Array Value} {w:World} {v:Value} {L:List Var} (h:aOq w (B+1) v L) (hb:Blk w X cs t) (h1:t≠132) (i:Nat) (u:Value):aOq (w.setCell ⟨X,i,none⟩ u) (B+1) v L:=by
 obtain ⟨A,c,e,h⟩:=h;exact ⟨A,c,e,aDa h hb h1 i u⟩
theorem aOq.keepB {B:Nat} {w w':World} {v:Value} {L:List Var} (h:aOq w (B+1) v L) (k:Bel w w'):aOq w' (B+1) v L:=by
 obtain ⟨A,c,e,h⟩:=h;exact ⟨A,c,e,k.owns h⟩
theorem aQ2.keepB {B:Nat} {w w':World} {v:Value} {L:List Rule} (h:aQ2 w (B+1) v L) (k:Bel w w'):aQ2 w' (B+1) v L :=
 h.keep (aEk.of_bel k) (fun hx=>k.owns hx)
theorem bHc {w:World} {B:Nat} {T:ByteArray} {ts:List Tok} {v3:Value} {p:Prg} (h:RdX w B T ts (.slice none 0 0) v3 (.slice none 0 0) (.slice none 0 0) (.slice none 0 0)) (hv:bKd (aA5 T) ts=some p) (hsz:∀ y∈p.rules,y.guard.length<=1000/\∀ s∈y.sets,s.value.length<=1000) :
  Calls prog 27 #[.func (.func 28) #[.pointer (some ⟨B,0,none⟩)] #[]] w fun e w'=>e = .returned (.tuple #[.int .i64 0,.int .i64 0])/\Fw B w.heap.size w w'/\∃ v2 v4 v5 v6,RdX w' B T [] v2 (.string p.name) v4 v5 v6/\aOq w' (B+1) v4 p.vars/\aQ2 w' (B+1) v5 p.rules/\p.vars.length<=10/\p.rules.length<=20:=by
 have hB:B<w.heap.size:=by obtain ⟨_,_,h⟩:=h;exact h.lt
 have HH:=aA0 h;have HV:=aA0 hv;have HSZ:=aA0 hsz;clear h hv hsz;have hmf:∀ (fn:Fn) (first cap:Array Value) (w:World),(Instr.makeFunc fn first cap).run prog w = .ok (.func fn first cap) w:=fun _ _ _ _=>rfl
 go_enter_defers func27,ntmps27
 have hb0:Blk ((w.alloc (.cells #[.int .i64 0] 3)).alloc (.cells #[.int .i64 0] 32)) w.heap.size #[.int .i64 0] 3:=(Blk.new w _ _).alloc _;have hb1:Blk ((w.alloc (.cells #[.int .i64 0] 3)).alloc (.cells #[.int .i64 0] 32)) (w.heap.size+1) #[.int .i64 0] 32:=by have:=Blk.new (w.alloc (.cells #[.int .i64 0] 3)) #[.int .i64 0] 32;rwa [World.size_alloc] at this
 have K0:=aA0 hb0;have K1:=aA0 hb1;clear hb0 hb1
 go_wp2_with (refine (bM7 (HH.out.bel (((Bel.refl w).alloc _).alloc _)) HV.out HSZ.out).mono ?_;rintro e w1 ⟨⟨u,rfl⟩,hf,v2,v4,v5,v6,hx,hv,hr,hl1,hl2⟩;have hsz1:=hf.size;simp only [World.size_alloc] at hsz1;have HX1:=aA0 hx;have HV1:=aA0 hv;have HR1:=aA0 hr;have HF1:=aA0 hf;have K2:=aA0 (show Blk w1 w.heap.size #[.int .i64 0] 3 from (hf.block _ K0.out.lt (by simp only [World.size_alloc];omega)).trans K0.out);have K3:=aA0 (show Blk w1 (w.heap.size+1) #[.int .i64 0] 32 from (hf.block _ K1.out.lt (by simp only [World.size_alloc];omega)).trans K1.out);have c0:=K2.out.cell 0 (v := .int .i64 0) rfl;have c1:=K3.out.cell 0 (v := .int .i64 0) rfl;have f0:=K2.out.frozen 0;have f1:=K3.out.frozen 0;clear hf hx hv hr)
 have A2:Agr (fun q=>q=w.heap.size) w1 (w1.setCell ⟨w.heap.size,0,none⟩ (.int .i64 0)):=Agr.setCell _ _ _ rfl;have A3:Agr (fun q=>q=w.heap.size+1) (w1.setCell ⟨w.heap.size,0,none⟩ (.int .i64 0)) ((w1.setCell ⟨w.heap.size,0,none⟩ (.int .i64 0)).setCell ⟨w.heap.size+1,0,none⟩ (.int .i64 0)):=Agr.setCell _ _ _ rfl;have M0:=(K2.out.set 0 (.int .i64 0)).other (a:=⟨w.heap.size+1,0,none⟩) (by show w.heap.size≠w.heap.size+1;omega) (.int .i64 0)
 have M1':=K3.out.other (a:=⟨w.heap.size,0,none⟩) (by show w.heap.size+1≠w.heap.size;omega) (.int .i64 0)
 have M1:=M1'.set 0 (.int .i64 0);have HX2:=aA0 ((HX1.out.agrX A2 (by omega)).agrX A3 (by omega))
 have HV2:=aA0 ((HV1.out.setB K2.out (by decide) 0 (.int .i64 0)).setB M1' (by decide) 0 (.int .i64 0))
 have HR2:=aA0 ((HR1.out.setB K2.out (by decide) (by decide) (by decide) 0 (.int .i64 0)).setB M1' (by decide) (by decide) (by decide) 0 (.int .i64 0))
 have HF2:=aA0 ((((Fw.of_bel (((Bel.refl w).alloc _).alloc _)).trans (HF1.out.mono (E':=fun q=>q=B∨w.heap.size<=q) (fun q e=>e.elim .inl (fun e => .inr (by simp only [World.size_alloc] at e;omega))))).trans (A2.mono (fun q e => .inr (by omega)))).trans (A3.mono (fun q e => .inr (by omega))))
 clear A2 A3 M1';refine leaves_cons (f:=54) (args:=#[.pointer (some ⟨w.heap.size,0,none⟩),.pointer (some ⟨w.heap.size+1,0,none⟩)]) (by simp) (by simp [go_sem]) ?_
 refine (bLm _ _ _).mono ?_
 rintro e u' w3 ⟨⟨x,rfl⟩,rfl,hb⟩;have y0:=(M0.keep hb).cell 0 (v := .int .i64 0) rfl;have y1:=(M1.keep hb).cell 0 (v := .int .i64 0) rfl;simp [Leaves,settle,results,Tryz.results27,go_sem,y0,y1]
 exact ⟨HF2.out.trans (Fw.of_bel hb),v2,v4,v5,⟨v6,HX2.out.bel hb⟩,HV2.out.keepB hb,HR2.out.keepB hb,hl1,hl2⟩
theorem bCh {α:Type} {f:α->List Value} {size:Nat} (hl:∀ x,(f x).length=size):∀ xs:List α,(xs.flatMap f).length=xs.length*size
 | []=>by simp
 | x :: xs=>by rw [List.flatMap_cons,List.length_append,hl,bCh hl xs,List.length_cons,Nat.succ_mul];omega
theorem aNq {α:Type} {f:α->List Value} {size:Nat} (hl:∀ x,(f x).length=size):∀ (xs:List α) (i:Nat) (x:α) (j:Nat) (u:Value),xs[i]?=some x->(f x)[j]?=some u->(xs.flatMap f)[i*size+j]?=some u
 | [],i,x,j,u,h,_=>by simp at h
 | y :: xs,0,x,j,u,h,hu=>by
  simp at h;subst h
  rw [List.flatMap_cons,Nat.zero_mul,Nat.zero_add,List.getElem?_append_left (List.getElem?_eq_some_iff.1 hu).1];exact hu
 | y :: xs,i+1,x,j,u,h,hu=>by
  rw [List.flatMap_cons,List.getElem?_append_right (by rw [hl,Nat.succ_mul];omega),hl,show (i+1)*size+j-size=i*size+j by rw [Nat.succ_mul];omega]
  exact aNq hl xs i x j u (by simpa using h) hu
theorem aKk {α:Type} {size:Nat} {E:World->Nat->Nat->α->Prop} {f:α->List Value} {w:World} {base e:Nat} {A:Option Addr} {n c:Nat} {xs:List α} (hs:0<size) (hl:∀ x,(f x).length=size) (hE:∀ g o x,g<w.heap.size->(∀ j u,(f x)[j]?=some u->w.cell? ⟨g,o+j,none⟩=some u)->E w g o x) (h:w.ownsRow base e size (.slice A n c) n (xs.flatMap f)):aAc size E w A n xs:=by
 refine ⟨by have:=h.1;rw [bCh hl] at this;exact Nat.eq_of_mul_eq_mul_right hs this,fun i x hx=>?_⟩
 obtain ⟨u0,hu0⟩:∃ u,(f x)[0]?=some u:=⟨_,List.getElem?_eq_getElem (by rw [hl];exact hs)⟩
 obtain ⟨g,rfl,_,hg,_⟩:=aAj h (aNq hl xs i x 0 u0 hx hu0);refine ⟨g,0,rfl,hg,hE g _ x hg (fun j u hu=>?_)⟩
 obtain ⟨g',e',_,_,hc,_⟩:=aAj h (aNq hl xs i x j u hx hu);injection e' with e';injection e' with e';subst e'
 rw [Nat.zero_add];exact hc
theorem bFr {w:World} {base e:Nat} {A:Option Addr} {n c:Nat} {V:List Var} (h:w.ownsRow base e 6 (.slice A n c) n (V.flatMap vC)):aNh w A n V :=
 aKk (by decide) (fun _=>rfl) (fun g o x _ k=>⟨k 0 _ rfl,k 1 _ rfl,k 2 _ rfl,k 3 _ rfl,k 4 _ rfl,k 5 _ rfl⟩) h
theorem bM4 {w:World} {base e B:Nat} {A:Option Addr} {n c:Nat} {ts:List Tok} (hB:w.heap.size<=B) (h:w.ownsRow base e 4 (.slice A n c) n (aHb ts)):aAc 4 (bGs B) w A n ts :=
 aKk (by decide) (fun _=>rfl) (fun g o x hg k=>⟨by omega,k 0 _ rfl,k 1 _ rfl,k 2 _ rfl,k 3 _ rfl⟩) h
theorem bM3 {w:World} {base e N:Nat} {A:Option Addr} {n c:Nat} {L:List SetT} {ss:List Value} (h:w.ownsRow base e 2 (.slice A n c) n ss) (hs:aP8 w N ss L):aQ6 w A n L:=by
 refine ⟨by have:=h.1;have:=hs.1;omega,fun i t ht=>?_⟩
 obtain ⟨G,k,h1,h2,h3⟩:=hs.2 i t ht;obtain ⟨g,rfl,_,hg,c1,_⟩:=aAj h h1;obtain ⟨g',e',_,_,c2,_⟩:=aAj h h2;injection e' with e';injection e' with e';subst e'
 refine ⟨g,0,rfl,hg,by rw [Nat.zero_add];exact c1,G,k,by rw [Nat.zero_add];exact c2,aRg h3,aCd h3⟩
theorem bIu {w:World} {base e N:Nat} {A:Option Addr} {n c:Nat} {R:List Rule} {hs:List Value} (h:w.ownsRow base e 3 (.slice A n c) n hs) (hr:aJ6 w N hs R):aJ7 w A n R:=by
 refine ⟨by have:=h.1;have:=hr.1;omega,fun i r hx=>?_⟩
 obtain ⟨G,gc,S,sc,ss,h1,h2,h3,h4⟩:=hr.2 i r hx;obtain ⟨g,rfl,_,hg,c1,_⟩:=aAj h h1;obtain ⟨g',e',_,_,c2,_⟩:=aAj h h2;injection e' with e';injection e' with e';subst e'
 obtain ⟨g',e',_,_,c3,_⟩:=aAj h h3;injection e' with e';injection e' with e';subst e'
 exact ⟨g,0,rfl,hg,by rw [Nat.zero_add];exact c1,⟨G,gc,by rw [Nat.zero_add];exact c2,aRg h4.guard,aCd h4.guard⟩,S,sc,by rw [Nat.zero_add];exact c3,bM3 h4.sets h4.vals,aCd h4.sets⟩
theorem bD8 {w:World} {B:Nat} {v4 v5:Value} {p:Prg} (hv:aOq w (B+1) v4 p.vars) (hr:aQ2 w (B+1) v5 p.rules):aK5 w (.agg #[.string p.name,v4,v5]) p:=by
 obtain ⟨A,c,rfl,hv⟩:=hv;obtain ⟨A2,c2,hs,rfl,hr,hp⟩:=hr;exact ⟨A,c,A2,c2,rfl,bFr hv,(aCd hv).1,(aCd hv).2,bIu hr hp,(aCd hr).1,(aCd hr).2⟩
theorem aOq.setX {B:Nat} {w:World} {v:Value} {L:List Var} (h:aOq w (B+1) v L) {a:Addr} (ha:a.block<B) (u:Value):aOq (w.setCell a u) (B+1) v L:=by
 obtain ⟨A,c,e,h⟩:=h;exact ⟨A,c,e,aAh h (Nat.lt_succ_of_lt ha) u⟩
theorem aQ2.setX {B:Nat} {w:World} {v:Value} {L:List Rule} (h:aQ2 w (B+1) v L) {a:Addr} (ha:a.block<B) (u:Value):aQ2 (w.setCell a u) (B+1) v L :=
 h.keep (fun _ hx=>aAh hx (Nat.lt_succ_of_lt ha) u) (fun hx=>aAh hx (Nat.lt_succ_of_lt ha) u)
theorem bDe (T:ByteArray):∀ (n k:Nat) (ts:List Tok),aOf (aA5 T) n k=some ts->∀ t∈ts,bN9 T t
 | 0,_,_,h=>by simp [aOf] at h
 | n+1,k,ts,h=>by
  unfold aOf at h;split at h
  .rename_i hk
   rw [aAv] at hk;split at h
   .rename_i t ht
    split at h
    .rename_i r hr
     injection h with h;subst h
     obtain ⟨h1,h2,h3,_⟩:=bCy hk ht;intro t' ht'
     rcases List.mem_cons.1 ht' with rfl | ht'
     .exact ⟨by omega,h2⟩
     .exact bDe T n _ r hr t' ht'
    .cases h
   .cases h
  .injection h with h;subst h
   intro t ht;cases ht
theorem bGd {T:ByteArray} {ts:List Tok} (h:aGw (aA5 T)=some ts):(∀ t∈ts,bN9 T t)/\T.size<=16384:=by
 unfold aGw at h;split at h
 .rename_i hc
  rw [Bool.and_eq_true,decide_eq_true_iff,aAv] at hc;exact ⟨bDe T _ _ _ h,hc.2⟩
 .cases h
theorem aRh (T:ByteArray) (ts:List Tok) (p:Prg) (w:World) (hN:ts.length<=4000) (ht:aGw (aA5 T)=some ts) (hv:bKd (aA5 T) ts=some p) (hsz:∀ y∈p.rules,y.guard.length<=1000/\∀ s∈y.sets,s.value.length<=1000) (hne:p.vars.length≠0) (hL:aCc p=true) (hc:aC6 p=0) :
  Calls prog 9 #[.string T] w fun e w'=>(∃ v,e = .returned (.tuple #[v,.int .i64 0,.int .i64 0])/\aK5 w' v p)/\Bel w w':=by
 have HT:=aA0 ht;have HV:=aA0 hv;have HSZ:=aA0 hsz;have HL:=aA0 hL;have HC:=aA0 hc;have HOK:=aA0 (bGd ht);clear ht hv hsz hL hc;have hz:((p.vars.length:Int)==0)=false:=by rw [beq_eq_false_iff_ne];omega
 go_enter func9,ntmps9
 go_wp2_with (first
  | (go_at_call 26;refine (bMm T ts _ hN HT.out).mono ?_;rintro e w1 ⟨⟨At,ct,rfl,ho⟩,hb⟩;have HB1:=aA0 (((Bel.refl w).alloc _).trans hb);have X1:=aA0 ((Blk.new w #[.string { data:=#[] },.slice none 0 0,.slice none 0 0] 31).keep hb);have HX1:=aA0 (show RdX (w1.alloc (.cells #[.string T,.slice At ts.length ct,.slice none 0 0,.string { data:=#[] },.slice none 0 0,.slice none 0 0,.slice none 0 0] 81)) w1.heap.size T ts (.slice none 0 0) (.string { data:=#[] }) (.slice none 0 0) (.slice none 0 0) (.slice none 0 0) from ⟨At,ct,Blk.new _ _ _,bNe.agr (bM4 (Nat.le_refl _) ho) (Agr.alloc (fun _=>False) _ _) (fun _ h=>h.elim),aCd ho,hN,HOK.out.1,HOK.out.2⟩);clear ho hb)
  | (refine (bHc (B:=w1.heap.size) (ts:=ts) (T:=T) (v3 := .string { data:=#[] }) (p:=p) HX1.out HV.out HSZ.out).mono ?_;rintro e w3 ⟨rfl,hf,v2,v4,v5,v6,hx,hv,hr,hl1,hl2⟩;have hle1:=HB1.out.size;have hle3:=hf.size;simp only [World.size_alloc] at hle3;have hX0:=X1.out.lt;have X3:=aA0 (show Blk w3 w.heap.size #[.string { data:=#[] },.slice none 0 0,.slice none 0 0] 31 from (hf.block _ (X1.out.alloc _).lt (by simp only [World.size_alloc];omega)).trans (X1.out.alloc _));have HB3:=aA0 (Agr.belE (HB1.out.alloc _) hf (fun k e=>by simp only [World.size_alloc] at e;omega));have HX3:=aA0 hx;have HV3:=aA0 hv;have HR3:=aA0 hr;obtain ⟨A4,c4,rfl,_⟩:=id hv;obtain ⟨A5,c5,_,rfl,_⟩:=id hr;obtain ⟨A',k',hrd⟩:=id hx;have y3:=hrd.blk.cell 3 (v := .string p.name) rfl;have y4:=hrd.blk.cell 4 (v := .slice A4 p.vars.length c4) rfl;have y5:=hrd.blk.cell 5 (v := .slice A5 p.rules.length c5) rfl;have hlB:=hrd.blk.lt;clear hf hx hv hr hrd)
  | (refine (aWr _ p _ (bD8 HV3.out HR3.out) HL.out).mono ?_;rintro e w4 ⟨rfl,hb⟩;rw [HC.out];have hle4:=hb.size;have X4:=aA0 (X3.out.keep hb);have HB4:=aA0 (HB3.out.trans hb);have HV4:=aA0 (HV3.out.keepB hb);have HR4:=aA0 (HR3.out.keepB hb);obtain ⟨A',k',hrd⟩:=id (HX3.out.bel hb);have z3:=hrd.blk.cell 3 (v := .string p.name) rfl;have z4:=hrd.blk.cell 4 (v := .slice A4 p.vars.length c4) rfl;have z5:=hrd.blk.cell 5 (v := .slice A5 p.rules.length c5) rfl;have hlB4:=hrd.blk.lt;have x0:=X4.out.cell 0 (v := .string { data:=#[] }) rfl;have x1:=X4.out.cell 1 (v := .slice none 0 0) rfl;have x2:=X4.out.cell 2 (v := .slice none 0 0) rfl;have q0:=X4.out.frozen 0;have q1:=X4.out.frozen 1;have q2:=X4.out.frozen 2;clear hb hrd))
 have M:=((X4.out.set 0 (.string p.name)).set 1 (.slice A4 p.vars.length c4)).set 2 (.slice A5 p.rules.length c5);have m0:=M.cell 0 (v := .string p.name) rfl;have m1:=M.cell 1 (v := .slice A4 p.vars.length c4) rfl;have m2:=M.cell 2 (v := .slice A5 p.rules.length c5) rfl;have hX:w.heap.size<w1.heap.size:=by omega
 refine bodyPost_ret (v := .tuple #[.agg #[.string p.name,.slice A4 p.vars.length c4,.slice A5 p.rules.length c5],.int .i64 0,.int .i64 0]) (by simp [results,Tryz.results9,go_sem,m0,m1,m2]) rfl ⟨⟨_,rfl,?_⟩,((HB4.out.setCell (Nat.le_refl _) _).setCell (Nat.le_refl _) _).setCell (Nat.le_refl _) _⟩
 exact bD8 (((HV4.out.setX hX _).setX hX _).setX hX _) (((HR4.out.setX hX _).setX hX _).setX hX _)
attribute [local go_sem] Oper.semAt_some
theorem aQd {S:Nat} (hS:S<4294967296):bits .and .u32 (S:Int) (-(S:Int) % 4294967296)=((lsb S:Nat):Int):=by
 by_cases h0:S=0
 .subst h0;rfl
 .exact bC9 hS h0
def aBb (g:Graph) (s v:Nat):Nat:=if aP2 g v&&&s=0 then s|||2 ^ v else s
theorem aNs (g:Graph) (l:List Nat):aLi g l=l.foldl (aBb g) 0:=rfl
theorem aNt {g:Graph} {s v:Nat} (hs:s<4294967296) (hv:v<32):aBb g s v<4294967296:=by
 unfold aBb;split
 .exact Nat.or_lt_two_pow (n:=32) hs (aLb hv)
 .exact hs
theorem aYv (A:Option Addr) (c:Nat) (g:Graph) (E wi x:Nat) (w:World) (hN:aOp w A g) (hT:aDl w) (hg:GOK g) (hE:E<4294967296) (hW:wi<4294967296)
  (hx:(wi&&&E=0/\lsb E=x)∨(wi&&&E≠0/\wi&&&E=x)) (hw:∀ v,x.testBit v=true->v<g.ports.length) :
  Calls prog 96 #[.slice A g.ports.length c,.int .i64 2,.int .u32 (E:Int),.int .u32 (wi:Int)] w fun e w'=>e = .returned (.int .u32 (aLi g (aAd x):Nat))/\Bel w w':=by
 have HN:=aA0 (fun w' (k:Bel w w')=>hN.keep k);have HT:=aA0 (fun w' (k:Bel w w')=>hT.keep k);have hle:=hg.le;have hba:=aCs hW hE;have hbl:=aQd hE
 have hxl:x<4294967296:=by
  rcases hx with ⟨_,h⟩ | ⟨_,h⟩
  .rw [<- h];exact bCt hE
  .rw [<- h];exact Nat.lt_of_le_of_lt Nat.and_le_right hE
 rcases hx with ⟨h1,h2⟩ | ⟨h1,h2⟩
 .have z:(((wi&&&E:Nat):Int)==0)=true:=by simpa using h1
  rw [h2] at hbl;clear h1 h2;generalize wi&&&E=m at *;refine aFi func96 rfl ?_
  simp only [ntmps96,List.size_toArray,List.length_cons,List.length_nil,Nat.reduceAdd,Nat.reduceSub,Array.replicate_succ,Array.replicate_zero,List.push_toArray,List.append_toArray,List.nil_append,List.cons_append]
  go_wp2_with (go_at_call 85;refine (aF3 _ _).mono ?_;rintro e w' ⟨rfl,rfl⟩)
  obtain ⟨W0,hW0⟩:∃ W0,((w.alloc (.cells #[.slice A g.ports.length c] 98)).alloc (.cells #[.int .u32 0] 46)).alloc (.cells #[.int .u32 (x:Int)] 46)=W0:=⟨_,rfl⟩;have b1:Boxed W0 w.heap.size 98 (.slice A g.ports.length c):=by rw [<- hW0];exact ((Boxed.new w _ _).alloc _).alloc _
  have b2:Boxed W0 (w.heap.size+1) 46 (.int .u32 0):=by
   rw [<- hW0];have:=Boxed.new (w.alloc (.cells #[.slice A g.ports.length c] 98)) 46 (.int .u32 0);rw [World.size_alloc] at this;exact this.alloc _
  have b3:Boxed W0 (w.heap.size+1+1) 46 (.int .u32 (x:Int)):=by
   rw [<- hW0];have:=Boxed.new ((w.alloc (.cells #[.slice A g.ports.length c] 98)).alloc (.cells #[.int .u32 0] 46)) 46 (.int .u32 (x:Int));rw [World.size_alloc,World.size_alloc] at this;exact this
  have hb0:Bel w W0:=by rw [<- hW0];exact (((Bel.refl w).alloc _).alloc _).alloc _
  have hz0:W0.heap.size=w.heap.size+1+1+1:=by rw [<- hW0];simp
  rw [hW0];clear hW0;refine (wpIn_wide (n:=5)).1 ?_
  refine aFn (n:=5) rfl (by decide) (gf:=125) (lb:=#[.pointer (some ⟨w.heap.size+1+1,0,none⟩)]) (by simp [go_sem]) trivial (enters_of func125 (by kernel_rfl) rfl)
   (aJm 4 _ x W0 (by decide) hxl b3 (HT.out _ hb0)) (by rintro k rfl;omega) (by rintro k rfl;exact (HT.out _ hb0).1) (fun _=>rfl) (fun k=>k=w.heap.size+1+1∨k=W0.heap.size∨k=W0.heap.size+1) (fun k=>Iff.rfl)
   (fun pre W=>Boxed W w.heap.size 98 (.slice A g.ports.length c)/\Boxed W (w.heap.size+1) 46 (.int .u32 (pre.foldl (aBb g) 0:Nat))/\pre.foldl (aBb g) 0<4294967296/\Bel w W)
   (fun c pre W=>False)
   (fun s A B ⟨h1,h2,h3,h4⟩ hg=>⟨hg.boxed h1 (by omega),hg.boxed h2 (by omega),h3,hg.belE h4 (by omega)⟩)
   (fun c s A B h hg=>h)
   ⟨b1,b2,by show (0:Nat)<4294967296;decide,hb0⟩
   (fun v a' W=>a'={ tmps:=#[.slice A g.ports.length c,.int .i64 2,.int .u32 (E:Int),.int .u32 (x:Int),.pointer (some ⟨w.heap.size,0,none⟩),undef,undef,undef,.int .u32 0,.pointer (some ⟨w.heap.size+1,0,none⟩),.int .i64 (v:Int),.int .u32 (wi:Int),.int .u32 (E:Int),.int .u32 (m:Int),.int .u32 (m:Int),.bool true,.int .u32 (E:Int),.int .u32 (E:Int),.int .u32 (-(E:Int) % 4294967296),.int .u32 (x:Int),.int .i64 2,.bool false,.bool false,undef,undef,undef,undef,.bool true,.bool true,.int .u32 (x:Int),.func (.func 125) #[] #[.pointer (some ⟨w.heap.size+1+1,0,none⟩)],.int .i64 (v:Int),undef,undef,undef,undef,undef,undef,undef,undef,undef,undef,undef,undef,undef,undef,undef,undef],defers:=[] })
   (fun _ _ _ _ h _=>h) ?assign ?body ?done ?stop
  case assign =>
   intro pre v W K hp hI hl hK
   gi_wp2
   exact hK _ _ (aBf.refl _ _) hI rfl
  case body =>
   rintro pre v a' W hp ⟨h1,h2,h3,h4⟩ rfl hl ⟨r,hr⟩;have hv:v∈aAd x:=hp.subset (by simp)
   have hvn:=hw v (aC8.1 hv).2;obtain ⟨b,o,e,hb,hc⟩:=(HN.out _ h4).at_ hvn;subst e;have HFS:Hid ((pre++[v]).foldl (aBb g) 0=aBb g (pre.foldl (aBb g) 0) v):=by show _=_;rw [List.foldl_append];rfl
   have HLT:Hid (aBb g (pre.foldl (aBb g) 0) v<4294967296):=aNt h3 (by omega)
   have HGS:Hid (aBb g (pre.foldl (aBb g) 0) v=if aP2 g v&&&pre.foldl (aBb g) 0=0 then pre.foldl (aBb g) 0|||2 ^ v else pre.foldl (aBb g) 0):=rfl
   obtain ⟨c1,f1,l1⟩:=aAs h1;obtain ⟨c2,f2,l2⟩:=aAs h2;have q:=aCs (bAy hg v) h3;have q2:=aK6 h3 (show v<32 by omega)
   have hdv:decide (v<g.ports.length)=true:=by simpa using hvn
   generalize pre.foldl (aBb g) 0=s at *;generalize hnv:aP2 g v=N at *;refine wpIn_block (wpIn_seq ?_)
   refine aA4.startIn (fun w'=>w'.cell? ⟨w.heap.size,0,none⟩=some (.slice (some ⟨b,o,none⟩) g.ports.length c)/\w'.cell? ⟨w.heap.size+1,0,none⟩=some (.int .u32 (s:Int))/\w'.cell? ⟨b,o+v,none⟩=some (.int .u32 (N:Int))/\w.heap.size<w'.heap.size/\w.heap.size+1<w'.heap.size/\b<w'.heap.size) 6 (by kernel_rfl) (by kernel_rfl) (by rintro ⟨_,_,h⟩;exact h) ?_
   have hHeld:W.drew.cell? ⟨w.heap.size,0,none⟩=some (.slice (some ⟨b,o,none⟩) g.ports.length c)/\W.drew.cell? ⟨w.heap.size+1,0,none⟩=some (.int .u32 (s:Int))/\W.drew.cell? ⟨b,o+v,none⟩=some (.int .u32 (N:Int))/\w.heap.size<W.drew.heap.size/\w.heap.size+1<W.drew.heap.size/\b<W.drew.heap.size:=⟨c1,c2,hc,l1,l2,hb⟩
   by_cases hz:N&&&s=0
   .rw [hz] at q
    rw [if_pos hz] at HGS
    (refine aA4.u (v:=?_) 0 32 rfl hHeld ?_ ?_;rotate_left 1;focus (intro w' hSw;(try dsimp only at hSw);go_simp;(try with_reducible rfl);done))
    (refine aA4.u (v:=?_) 1 33 rfl hHeld ?_ ?_;rotate_left 1;focus (intro w' hSw;(try dsimp only at hSw);go_simp;(try with_reducible rfl);done))
    (refine aA4.u (v:=?_) 2 34 rfl hHeld ?_ ?_;rotate_left 1;focus (intro w' hSw;(try dsimp only at hSw);go_simp;(try with_reducible rfl);done))
    (refine aA4.u (v:=?_) 3 35 rfl hHeld ?_ ?_;rotate_left 1;focus (intro w' hSw;(try dsimp only at hSw);go_simp;(try with_reducible rfl);done))
    (refine aA4.u (v:=?_) 4 36 rfl hHeld ?_ ?_;rotate_left 1;focus (intro w' hSw;(try dsimp only at hSw);go_simp;(try with_reducible rfl);done))
    (refine aA4.u (v:=?_) 5 37 rfl hHeld ?_ ?_;rotate_left 1;focus (intro w' hSw;(try dsimp only at hSw);go_simp;(try with_reducible rfl);done))
    refine aA4.one (i:=6) (by kernel_rfl) rfl (fun K hK=>?_)
    go_simp
    refine hK.out _ _ (fun h=>absurd rfl h) ?_
    refine aA4.done (by kernel_rfl) ?_ _
    (try simp only [Act.put,List.setIfInBounds_toArray,List.set_cons_zero,List.set_cons_succ])
    change Code.wpIn _ _ _ _ _ _ _
    gi_wp2
    refine aA4.startIn (fun w'=>w'.cell? ⟨w.heap.size,0,none⟩=some (.slice (some ⟨b,o,none⟩) g.ports.length c)/\w'.cell? ⟨w.heap.size+1,0,none⟩=some (.int .u32 (s:Int))/\w'.cell? ⟨b,o+v,none⟩=some (.int .u32 (N:Int))/\w.heap.size<w'.heap.size/\w.heap.size+1<w'.heap.size/\b<w'.heap.size) 4 (by kernel_rfl) (by kernel_rfl) (by rintro ⟨_,_,h⟩;exact h) ?_
    have hHeld:W.drew.drew.cell? ⟨w.heap.size,0,none⟩=some (.slice (some ⟨b,o,none⟩) g.ports.length c)/\W.drew.drew.cell? ⟨w.heap.size+1,0,none⟩=some (.int .u32 (s:Int))/\W.drew.drew.cell? ⟨b,o+v,none⟩=some (.int .u32 (N:Int))/\w.heap.size<W.drew.drew.heap.size/\w.heap.size+1<W.drew.drew.heap.size/\b<W.drew.drew.heap.size:=⟨c1,c2,hc,l1,l2,hb⟩
    (refine aA4.u (v:=?_) 0 39 rfl hHeld ?_ ?_;rotate_left 1;focus (intro w' hSw;(try dsimp only at hSw);go_simp;(try with_reducible rfl);done))
    (refine aA4.u (v:=?_) 1 40 rfl hHeld ?_ ?_;rotate_left 1;focus (intro w' hSw;(try dsimp only at hSw);go_simp;(try with_reducible rfl);done))
    (refine aA4.u (v:=?_) 2 41 rfl hHeld ?_ ?_;rotate_left 1;focus (intro w' hSw;(try dsimp only at hSw);go_simp;(try with_reducible rfl);done))
    (refine aA4.u (v:=?_) 3 42 rfl hHeld ?_ ?_;rotate_left 1;focus (intro w' hSw;(try dsimp only at hSw);go_simp;(try with_reducible rfl);done))
    (refine aA4.one (i:=4) (by kernel_rfl) rfl (fun K hK=>?_));go_simp;refine hK.out _ _ (fun h=>absurd rfl h) ?_;clear hK K;refine aA4.done (by kernel_rfl) ?_ _;(try simp only [Act.put,List.setIfInBounds_toArray,List.set_cons_zero,List.set_cons_succ])
    rw [show IntKind.u32.wrap (2 ^ v)=2 ^ v % 4294967296 from rfl,q2,<- HGS.out]
    gi_wp2
    have h2':=h2.set (.int .u32 (aBb g s v:Nat));refine ⟨aBf.drew (aBf.drew (aBf.setCell _ _ _ ?_)),?_,?_,?_,((h4.setCell (by simp) _).drew).drew⟩
    .have:=hT.1
     rintro ((h | h | h) | h) <;> (dsimp only at h;omega)
    .exact (Below.heap_setCell _ _ _ _ (by simp)).trans h1
    .rw [HFS.out];exact h2'
    .rw [HFS.out];exact HLT.out
   .have hq:(((N&&&s:Nat):Int)==0)=false:=by simpa using hz
    rw [if_neg hz] at HGS;generalize N&&&s=Z at *
    (refine aA4.u (v:=?_) 0 32 rfl hHeld ?_ ?_;rotate_left 1;focus (intro w' hSw;(try dsimp only at hSw);go_simp;(try with_reducible rfl);done))
    (refine aA4.u (v:=?_) 1 33 rfl hHeld ?_ ?_;rotate_left 1;focus (intro w' hSw;(try dsimp only at hSw);go_simp;(try with_reducible rfl);done))
    (refine aA4.u (v:=?_) 2 34 rfl hHeld ?_ ?_;rotate_left 1;focus (intro w' hSw;(try dsimp only at hSw);go_simp;(try with_reducible rfl);done))
    (refine aA4.u (v:=?_) 3 35 rfl hHeld ?_ ?_;rotate_left 1;focus (intro w' hSw;(try dsimp only at hSw);go_simp;(try with_reducible rfl);done))
    (refine aA4.u (v:=?_) 4 36 rfl hHeld ?_ ?_;rotate_left 1;focus (intro w' hSw;(try dsimp only at hSw);go_simp;(try with_reducible rfl);done))
    (refine aA4.u (v:=?_) 5 37 rfl hHeld ?_ ?_;rotate_left 1;focus (intro w' hSw;(try dsimp only at hSw);go_simp;(try with_reducible rfl);done))
    refine aA4.one (i:=6) (by kernel_rfl) rfl (fun K hK=>?_)
    go_simp
    refine hK.out _ _ (fun h=>absurd rfl h) ?_
    refine aA4.done (by kernel_rfl) ?_ _
    (try simp only [Act.put,List.setIfInBounds_toArray,List.set_cons_zero,List.set_cons_succ])
    change Code.wpIn _ _ _ _ _ _ _
    gi_wp2
    refine ⟨aBf.of_bel ((Bel.refl W).drew),h1,?_,?_,h4.drew⟩
    .rw [HFS.out,HGS.out];exact h2
    .rw [HFS.out];exact HLT.out
  case done =>
   rintro W ⟨h1,h2,h3,h4⟩ hK;obtain ⟨c2,f2,l2⟩:=aAs h2;rw [<- aNs] at *;go_wp2;refine aD7 (B:=w.heap.size) (aE5.push (aE5.nil _ _) (by omega) hK (by simp)) ?_
   intro W' hA hs
   exact ⟨.int .u32 (aLi g (aAd x):Nat),by simp [results,Tryz.results96,go_sem],rfl,hA.bel h4⟩
  case stop =>
   rintro c' pre W hp h hK;exact h.elim
 .have z:(((wi&&&E:Nat):Int)==0)=false:=by simpa using h1
  rw [h2] at hba z;clear h1 h2;refine aFi func96 rfl ?_
  simp only [ntmps96,List.size_toArray,List.length_cons,List.length_nil,Nat.reduceAdd,Nat.reduceSub,Array.replicate_succ,Array.replicate_zero,List.push_toArray,List.append_toArray,List.nil_append,List.cons_append]
  go_wp2_with (go_at_call 85;refine (aF3 _ _).mono ?_;rintro e w' ⟨rfl,rfl⟩)
  obtain ⟨W0,hW0⟩:∃ W0,((w.alloc (.cells #[.slice A g.ports.length c] 98)).alloc (.cells #[.int .u32 0] 46)).alloc (.cells #[.int .u32 (x:Int)] 46)=W0:=⟨_,rfl⟩;have b1:Boxed W0 w.heap.size 98 (.slice A g.ports.length c):=by rw [<- hW0];exact ((Boxed.new w _ _).alloc _).alloc _
  have b2:Boxed W0 (w.heap.size+1) 46 (.int .u32 0):=by
   rw [<- hW0];have:=Boxed.new (w.alloc (.cells #[.slice A g.ports.length c] 98)) 46 (.int .u32 0);rw [World.size_alloc] at this;exact this.alloc _
  have b3:Boxed W0 (w.heap.size+1+1) 46 (.int .u32 (x:Int)):=by
   rw [<- hW0];have:=Boxed.new ((w.alloc (.cells #[.slice A g.ports.length c] 98)).alloc (.cells #[.int .u32 0] 46)) 46 (.int .u32 (x:Int));rw [World.size_alloc,World.size_alloc] at this;exact this
  have hb0:Bel w W0:=by rw [<- hW0];exact (((Bel.refl w).alloc _).alloc _).alloc _
  have hz0:W0.heap.size=w.heap.size+1+1+1:=by rw [<- hW0];simp
  rw [hW0];clear hW0;refine (wpIn_wide (n:=5)).1 ?_
  refine aFn (n:=5) rfl (by decide) (gf:=125) (lb:=#[.pointer (some ⟨w.heap.size+1+1,0,none⟩)]) (by simp [go_sem]) trivial (enters_of func125 (by kernel_rfl) rfl)
   (aJm 4 _ x W0 (by decide) hxl b3 (HT.out _ hb0)) (by rintro k rfl;omega) (by rintro k rfl;exact (HT.out _ hb0).1) (fun _=>rfl) (fun k=>k=w.heap.size+1+1∨k=W0.heap.size∨k=W0.heap.size+1) (fun k=>Iff.rfl)
   (fun pre W=>Boxed W w.heap.size 98 (.slice A g.ports.length c)/\Boxed W (w.heap.size+1) 46 (.int .u32 (pre.foldl (aBb g) 0:Nat))/\pre.foldl (aBb g) 0<4294967296/\Bel w W)
   (fun c pre W=>False)
   (fun s A B ⟨h1,h2,h3,h4⟩ hg=>⟨hg.boxed h1 (by omega),hg.boxed h2 (by omega),h3,hg.belE h4 (by omega)⟩)
   (fun c s A B h hg=>h)
   ⟨b1,b2,by show (0:Nat)<4294967296;decide,hb0⟩
   (fun v a' W=>a'={ tmps:=#[.slice A g.ports.length c,.int .i64 2,.int .u32 (E:Int),.int .u32 (x:Int),.pointer (some ⟨w.heap.size,0,none⟩),undef,undef,undef,.int .u32 0,.pointer (some ⟨w.heap.size+1,0,none⟩),.int .i64 (v:Int),.int .u32 (wi:Int),.int .u32 (E:Int),.int .u32 (x:Int),.int .u32 (x:Int),.bool false,undef,undef,undef,undef,.int .i64 2,.bool false,.bool false,undef,undef,undef,undef,.bool true,.bool true,.int .u32 (x:Int),.func (.func 125) #[] #[.pointer (some ⟨w.heap.size+1+1,0,none⟩)],.int .i64 (v:Int),undef,undef,undef,undef,undef,undef,undef,undef,undef,undef,undef,undef,undef,undef,undef,undef],defers:=[] })
   (fun _ _ _ _ h _=>h) ?assign ?body ?done ?stop
  case assign =>
   intro pre v W K hp hI hl hK
   gi_wp2
   exact hK _ _ (aBf.refl _ _) hI rfl
  case body =>
   rintro pre v a' W hp ⟨h1,h2,h3,h4⟩ rfl hl ⟨r,hr⟩;have hv:v∈aAd x:=hp.subset (by simp)
   have hvn:=hw v (aC8.1 hv).2;obtain ⟨b,o,e,hb,hc⟩:=(HN.out _ h4).at_ hvn;subst e;have HFS:Hid ((pre++[v]).foldl (aBb g) 0=aBb g (pre.foldl (aBb g) 0) v):=by show _=_;rw [List.foldl_append];rfl
   have HLT:Hid (aBb g (pre.foldl (aBb g) 0) v<4294967296):=aNt h3 (by omega)
   have HGS:Hid (aBb g (pre.foldl (aBb g) 0) v=if aP2 g v&&&pre.foldl (aBb g) 0=0 then pre.foldl (aBb g) 0|||2 ^ v else pre.foldl (aBb g) 0):=rfl
   obtain ⟨c1,f1,l1⟩:=aAs h1;obtain ⟨c2,f2,l2⟩:=aAs h2;have q:=aCs (bAy hg v) h3;have q2:=aK6 h3 (show v<32 by omega)
   have hdv:decide (v<g.ports.length)=true:=by simpa using hvn
   generalize pre.foldl (aBb g) 0=s at *;generalize hnv:aP2 g v=N at *;refine wpIn_block (wpIn_seq ?_)
   refine aA4.startIn (fun w'=>w'.cell? ⟨w.heap.size,0,none⟩=some (.slice (some ⟨b,o,none⟩) g.ports.length c)/\w'.cell? ⟨w.heap.size+1,0,none⟩=some (.int .u32 (s:Int))/\w'.cell? ⟨b,o+v,none⟩=some (.int .u32 (N:Int))/\w.heap.size<w'.heap.size/\w.heap.size+1<w'.heap.size/\b<w'.heap.size) 6 (by kernel_rfl) (by kernel_rfl) (by rintro ⟨_,_,h⟩;exact h) ?_
   have hHeld:W.drew.cell? ⟨w.heap.size,0,none⟩=some (.slice (some ⟨b,o,none⟩) g.ports.length c)/\W.drew.cell? ⟨w.heap.size+1,0,none⟩=some (.int .u32 (s:Int))/\W.drew.cell? ⟨b,o+v,none⟩=some (.int .u32 (N:Int))/\w.heap.size<W.drew.heap.size/\w.heap.size+1<W.drew.heap.size/\b<W.drew.heap.size:=⟨c1,c2,hc,l1,l2,hb⟩
   by_cases hz:N&&&s=0
   .rw [hz] at q
    rw [if_pos hz] at HGS
    (refine aA4.u (v:=?_) 0 32 rfl hHeld ?_ ?_;rotate_left 1;focus (intro w' hSw;(try dsimp only at hSw);go_simp;(try with_reducible rfl);done))
    (refine aA4.u (v:=?_) 1 33 rfl hHeld ?_ ?_;rotate_left 1;focus (intro w' hSw;(try dsimp only at hSw);go_simp;(try with_reducible rfl);done))
    (refine aA4.u (v:=?_) 2 34 rfl hHeld ?_ ?_;rotate_left 1;focus (intro w' hSw;(try dsimp only at hSw);go_simp;(try with_reducible rfl);done))
    (refine aA4.u (v:=?_) 3 35 rfl hHeld ?_ ?_;rotate_left 1;focus (intro w' hSw;(try dsimp only at hSw);go_simp;(try with_reducible rfl);done))
    (refine aA4.u (v:=?_) 4 36 rfl hHeld ?_ ?_;rotate_left 1;focus (intro w' hSw;(try dsimp only at hSw);go_simp;(try with_reducible rfl);done))
    (refine aA4.u (v:=?_) 5 37 rfl hHeld ?_ ?_;rotate_left 1;focus (intro w' hSw;(try dsimp only at hSw);go_simp;(try with_reducible rfl);done))
    refine aA4.one (i:=6) (by kernel_rfl) rfl (fun K hK=>?_)
    go_simp
    refine hK.out _ _ (fun h=>absurd rfl h) ?_
    refine aA4.done (by kernel_rfl) ?_ _
    (try simp only [Act.put,List.setIfInBounds_toArray,List.set_cons_zero,List.set_cons_succ])
    change Code.wpIn _ _ _ _ _ _ _
    gi_wp2
    refine aA4.startIn (fun w'=>w'.cell? ⟨w.heap.size,0,none⟩=some (.slice (some ⟨b,o,none⟩) g.ports.length c)/\w'.cell? ⟨w.heap.size+1,0,none⟩=some (.int .u32 (s:Int))/\w'.cell? ⟨b,o+v,none⟩=some (.int .u32 (N:Int))/\w.heap.size<w'.heap.size/\w.heap.size+1<w'.heap.size/\b<w'.heap.size) 4 (by kernel_rfl) (by kernel_rfl) (by rintro ⟨_,_,h⟩;exact h) ?_
    have hHeld:W.drew.drew.cell? ⟨w.heap.size,0,none⟩=some (.slice (some ⟨b,o,none⟩) g.ports.length c)/\W.drew.drew.cell? ⟨w.heap.size+1,0,none⟩=some (.int .u32 (s:Int))/\W.drew.drew.cell? ⟨b,o+v,none⟩=some (.int .u32 (N:Int))/\w.heap.size<W.drew.drew.heap.size/\w.heap.size+1<W.drew.drew.heap.size/\b<W.drew.drew.heap.size:=⟨c1,c2,hc,l1,l2,hb⟩
    (refine aA4.u (v:=?_) 0 39 rfl hHeld ?_ ?_;rotate_left 1;focus (intro w' hSw;(try dsimp only at hSw);go_simp;(try with_reducible rfl);done))
    (refine aA4.u (v:=?_) 1 40 rfl hHeld ?_ ?_;rotate_left 1;focus (intro w' hSw;(try dsimp only at hSw);go_simp;(try with_reducible rfl);done))
    (refine aA4.u (v:=?_) 2 41 rfl hHeld ?_ ?_;rotate_left 1;focus (intro w' hSw;(try dsimp only at hSw);go_simp;(try with_reducible rfl);done))
    (refine aA4.u (v:=?_) 3 42 rfl hHeld ?_ ?_;rotate_left 1;focus (intro w' hSw;(try dsimp only at hSw);go_simp;(try with_reducible rfl);done))
    (refine aA4.one (i:=4) (by kernel_rfl) rfl (fun K hK=>?_));go_simp;refine hK.out _ _ (fun h=>absurd rfl h) ?_;clear hK K;refine aA4.done (by kernel_rfl) ?_ _;(try simp only [Act.put,List.setIfInBounds_toArray,List.set_cons_zero,List.set_cons_succ])
    rw [show IntKind.u32.wrap (2 ^ v)=2 ^ v % 4294967296 from rfl,q2,<- HGS.out]
    gi_wp2
    have h2':=h2.set (.int .u32 (aBb g s v:Nat));refine ⟨aBf.drew (aBf.drew (aBf.setCell _ _ _ ?_)),?_,?_,?_,((h4.setCell (by simp) _).drew).drew⟩
    .have:=hT.1
     rintro ((h | h | h) | h) <;> (dsimp only at h;omega)
    .exact (Below.heap_setCell _ _ _ _ (by simp)).trans h1
    .rw [HFS.out];exact h2'
    .rw [HFS.out];exact HLT.out
   .have hq:(((N&&&s:Nat):Int)==0)=false:=by simpa using hz
    rw [if_neg hz] at HGS;generalize N&&&s=Z at *
    (refine aA4.u (v:=?_) 0 32 rfl hHeld ?_ ?_;rotate_left 1;focus (intro w' hSw;(try dsimp only at hSw);go_simp;(try with_reducible rfl);done))
    (refine aA4.u (v:=?_) 1 33 rfl hHeld ?_ ?_;rotate_left 1;focus (intro w' hSw;(try dsimp only at hSw);go_simp;(try with_reducible rfl);done))
    (refine aA4.u (v:=?_) 2 34 rfl hHeld ?_ ?_;rotate_left 1;focus (intro w' hSw;(try dsimp only at hSw);go_simp;(try with_reducible rfl);done))
    (refine aA4.u (v:=?_) 3 35 rfl hHeld ?_ ?_;rotate_left 1;focus (intro w' hSw;(try dsimp only at hSw);go_simp;(try with_reducible rfl);done))
    (refine aA4.u (v:=?_) 4 36 rfl hHeld ?_ ?_;rotate_left 1;focus (intro w' hSw;(try dsimp only at hSw);go_simp;(try with_reducible rfl);done))
    (refine aA4.u (v:=?_) 5 37 rfl hHeld ?_ ?_;rotate_left 1;focus (intro w' hSw;(try dsimp only at hSw);go_simp;(try with_reducible rfl);done))
    refine aA4.one (i:=6) (by kernel_rfl) rfl (fun K hK=>?_)
    go_simp
    refine hK.out _ _ (fun h=>absurd rfl h) ?_
    refine aA4.done (by kernel_rfl) ?_ _
    (try simp only [Act.put,List.setIfInBounds_toArray,List.set_cons_zero,List.set_cons_succ])
    change Code.wpIn _ _ _ _ _ _ _
    gi_wp2
    refine ⟨aBf.of_bel ((Bel.refl W).drew),h1,?_,?_,h4.drew⟩
    .rw [HFS.out,HGS.out];exact h2
    .rw [HFS.out];exact HLT.out
  case done =>
   rintro W ⟨h1,h2,h3,h4⟩ hK;obtain ⟨c2,f2,l2⟩:=aAs h2;rw [<- aNs] at *;go_wp2;refine aD7 (B:=w.heap.size) (aE5.push (aE5.nil _ _) (by omega) hK (by simp)) ?_
   intro W' hA hs
   exact ⟨.int .u32 (aLi g (aAd x):Nat),by simp [results,Tryz.results96,go_sem],rfl,hA.bel h4⟩
  case stop =>
   rintro c' pre W hp h hK;exact h.elim
theorem aKx (g:Graph):∀ (l:List Nat) (s:Nat),s<4294967296->(∀ v∈l,v<32)->l.foldl (aBb g) s<4294967296
 | [],_,h,_=>h
 | v :: l,_,h,hl=>aKx g l _ (aNt h (hl v List.mem_cons_self)) fun u hu=>hl u (List.mem_cons_of_mem _ hu)
theorem bFt (g:Graph) (kind:Int) {E:Nat} (wi:Nat) (hE:E<4294967296):aCl g kind E wi<4294967296:=by
 have hx:(if wi&&&E=0 then lsb E else wi&&&E)<4294967296:=by
  split
  .exact bCt hE
  .exact Nat.lt_of_le_of_lt Nat.and_le_right hE
 unfold aCl;generalize (if wi&&&E=0 then lsb E else wi&&&E)=x at *
 dsimp only;split
 .exact bCt hx
 .split
  .rw [aNs];exact aKx g _ _ (by decide) fun v hv=>(aC8.1 hv).1
  .split
   .exact hE
   .exact hx
theorem bBd (A:Option Addr) (c:Nat) (g:Graph) (kind:Int) (E wi:Nat) (w:World) (hN:aOp w A g) (hT:aDl w) (hg:GOK g) (hE:E<2 ^ g.ports.length) (hW:wi<4294967296) :
  Calls prog 96 #[.slice A g.ports.length c,.int .i64 kind,.int .u32 (E:Int),.int .u32 (wi:Int)] w fun e w'=>e = .returned (.int .u32 (aCl g kind E wi:Nat))/\Bel w w':=by
 have hle:=hg.le;have hE32:E<4294967296:=Nat.lt_of_lt_of_le hE (Nat.pow_le_pow_right (n:=2) (by decide) (show g.ports.length<=32 by omega))
 obtain ⟨x,hx⟩:∃ x,(if wi&&&E=0 then lsb E else wi&&&E)=x:=⟨_,rfl⟩
 have hF:aCl g kind E wi=if kind=1 then lsb x else if kind=2 then aLi g (aAd x) else if kind=4 then E else x:=by unfold aCl;rw [hx]
 have hxE:x<=E:=by
  rw [<- hx];split
  .exact Nat.and_le_left
  .exact Nat.and_le_right
 have hx2:(wi&&&E=0/\lsb E=x)∨(wi&&&E≠0/\wi&&&E=x):=by
  by_cases h:wi&&&E=0
  .rw [if_pos h] at hx;exact .inl ⟨h,hx⟩
  .rw [if_neg h] at hx;exact .inr ⟨h,hx⟩
 rw [hF]
 by_cases k2:kind=2
 .subst k2
  rw [if_neg (by decide),if_pos rfl]
  refine aYv A c g E wi x w hN hT hg hE32 hW hx2 fun v hv=>?_
  rcases Nat.lt_or_ge v g.ports.length with h | h
  .exact h
  .have e:2 ^ g.ports.length<=2 ^ v:=Nat.pow_le_pow_right (by decide) h
   rw [Nat.testBit_lt_two_pow (by omega)] at hv;cases hv
 have k2':(kind==2)=false:=by simpa using k2
 have HB:Hid (Bel w (w.alloc (.cells #[.slice A g.ports.length c] 98))):=(Bel.refl w).alloc _;have hba:=aCs hW hE32;have hbl:=aQd hE32;have HBX:=aQd (S:=x) (by omega)
 have HR:Hid ((if kind=1 then lsb x else if kind=2 then aLi g (aAd x) else if kind=4 then E else x)=if kind=1 then lsb x else if kind=4 then E else x):=by show _=_;rw [if_neg k2]
 rw [HR.out];obtain ⟨r,hr⟩:∃ r,(if kind=1 then lsb x else if kind=4 then E else x)=r:=⟨_,rfl⟩
 have K:((kind==1)=true/\Hid (lsb x=r))∨((kind==1)=false/\(kind==4)=true/\Hid (E=r))∨((kind==1)=false/\(kind==4)=false/\Hid (x=r)):=by
  by_cases k1:kind=1
  .rw [if_pos k1] at hr;exact .inl ⟨by simpa using k1,hr⟩
  .rw [if_neg k1] at hr
   by_cases k4:kind=4
   .rw [if_pos k4] at hr;exact .inr (.inl ⟨by simpa using k1,by simpa using k4,hr⟩)
   .rw [if_neg k4] at hr;exact .inr (.inr ⟨by simpa using k1,by simpa using k4,hr⟩)
 rw [hr];clear hF hx HR hr hN hT hg hE k2
 rcases hx2 with ⟨h1,h2⟩ | ⟨h1,h2⟩
 .have z:(((wi&&&E:Nat):Int)==0)=true:=by simpa using h1
  rw [h2] at hbl;clear h1 h2;generalize wi&&&E=m at *
  rcases K with ⟨k1,hr⟩ | ⟨k1,k4,hr⟩ | ⟨k1,k4,hr⟩
  all_goals
   go_enter func96,ntmps96
   go_wp2_with fail
   go_ret;exact ⟨aA9 (by rw [<- hr.out]),HB.out⟩
 .have z:(((wi&&&E:Nat):Int)==0)=false:=by simpa using h1
  rw [h2] at hba z;clear h1 h2
  rcases K with ⟨k1,hr⟩ | ⟨k1,k4,hr⟩ | ⟨k1,k4,hr⟩
  all_goals
   go_enter func96,ntmps96
   go_wp2_with fail
   go_ret;exact ⟨aA9 (by rw [<- hr.out]),HB.out⟩
end Go.Proofs.YtmoebklkkjbigaaGreatDoor

namespace Go.Proofs.YtmoebklkkjbigaaGreatDoor
variable {p:Prg} {g:Graph} {kind:Int} {c:aA3}
open Go.ChangeShapes Go.WideShapes Go.ChangeAt Go.RowKit Go.Deep
section
variable {H:Type} {enc:TypeId × Value->H} {w:World} {base:Nat} {spare:Nat->Bool} {held:Bool}
end
end Go.Proofs.YtmoebklkkjbigaaGreatDoor

