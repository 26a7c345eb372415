/- Merged. -/
import Derived.Test.YtmoebklkkjbigaaGreatDoorZ32
import Derived.Tactics2
import Derived.Defers
import Derived.Recover
import Derived.Laws.Pointers
import Derived.Test.YtmoebklkkjbigaaGreatDoorZ27
import Derived.JoinedOf
import Derived.Test.YtmoebklkkjbigaaGreatDoorTie
import Derived.Test.YtmoebklkkjbigaaGreatDoorCards
import Derived.SevenTiedAt
set_option linter.unusedSimpArgs false
set_option linter.unnecessarySimpa false
set_option linter.unusedVariables false
set_option maxRecDepth 100000
set_option maxHeartbeats 4000000
open Go.Proofs.Tryz

namespace Go.Proofs.YtmoebklkkjbigaaGreatDoor
open Go.RowKit
theorem bGk (T:Wd) (n:Nat) (N:List Wd) (V:List Var) (ts:List Tok):bBt T (n+1) N V ts=if aBa T ts=[118,97,114] then (if V.length=6 then none else (varL T N ts.tail).bind fun (x,t1)=>bBt T n (N++[x.1]) (V++[x.2]) t1) else some ((N,V),ts):=rfl
theorem aRv (T:Wd) (N:List Wd) (n:Nat) (K:List Wd) (R:List Rule) (ts:List Tok):aN4 T N (n+1) K R ts=if aBa T ts=[114,117,108,101] then (if R.length=12 then none else (bMp T N K ts.tail).bind fun (x,t1)=>aN4 T N n (K++[x.1]) (R++[x.2]) t1) else some (R,ts):=rfl
theorem aRu {T:Wd} {N:List Wd}:∀ {n:Nat} {K:List Wd} {R R':List Rule} {ts r:List Tok},aN4 T N n K R ts=some (R',r)->∃ M,R'=R++M
 | 0,K,R,R',ts,r,h=>by simp [aN4] at h
 | n+1,K,R,R',ts,r,h=>by
  rw [aRv] at h;split at h
  .split at h
   .cases h
   .rw [Option.bind_eq_some_iff] at h
    obtain ⟨⟨x,t1⟩,_,h⟩:=h;obtain ⟨M,hM⟩:=aRu h;exact ⟨_,by rw [hM,List.append_assoc]⟩
  .injection h with h;injection h with h1 _
   exact ⟨[],by rw [h1];simp⟩
theorem aQ6.fw {B:Nat} {w w':World} {v:Value} {L:List Rule} (h:aQ6 w (B+1) v L) (k:Fw B w.heap.size w w'):aQ6 w' (B+1) v L:=by
 obtain ⟨A,c,hs,e,h,hd⟩:=h;exact ⟨A,c,hs,e,aHm h (Nat.lt_succ_self B) k,hd.keep (fun _ hx=>aHm hx (Nat.lt_succ_self B) k)⟩
theorem aY5 {w:World} {B:Nat} {T:ByteArray} {ts r:List Tok} {v2 v3 v4 v5 v6:Value} {Nf:List Wd} {Vf:List Var} (h:RdX w B T ts v2 v3 v4 v5 v6) (hN:aS7 w (B+1) v2 []) (hV:aOx w (B+1) v4 []) {n0:Nat} (hn0:n0<=w.heap.size) (hw2:Nw n0 v2) (hw4:Nw n0 v4) (hv:bBt (aA4 T) 10 [] [] ts=some ((Nf,Vf),r)) :
  Calls prog 58 #[.pointer (some ⟨B,0,none⟩),.string { data:=#[118,97,114] },.int .i64 6,.func (.func 59) #[.pointer (some ⟨B,0,none⟩)] #[]] w fun e w'=>(∃ x,e = .returned x)/\Agr (fun q=>q=B∨n0<=q) w w'/\∃ v2' v4',RdX w' B T r v2' v3 v4' v5 v6/\aS7 w' (B+1) v2' Nf/\aOx w' (B+1) v4' Vf/\Nw n0 v2'/\Nw n0 v4'/\Nf.length<=10/\Vf.length<=10:=by
 have hB:B<w.heap.size:=by obtain ⟨_,_,h⟩:=h;exact h.lt
 have HH:=aA0 h;have HN:=aA0 hN;have HV:=aA0 hV;have HW2:=aA0 hw2;have HW4:=aA0 hw4;have HSV:=aA0 hv;clear h hN hV hw2 hw4 hv;go_enter func58,ntmps58
 go_wp2_with fail
 go_loopg [8] 10 (fun m cv wr=>∃ (n:Nat) (N:List Wd) (V:List Var) (u2 u4:Value) (tk:List Tok),m=n/\cv = .int .i64 (V.length:Int)/\N.length+n<=10/\V.length+n<=10/\Hid (bBt (aA4 T) n N V tk=some ((Nf,Vf),r))/\Hid (RdX wr B T tk u2 v3 u4 v5 v6)/\Hid (aS7 wr (B+1) u2 N)/\Hid (aOx wr (B+1) u4 V)/\Hid (Nw n0 u2)/\Hid (Nw n0 u4)/\Hid (Agr (fun q=>q=B∨n0<=q) w wr))
 case atStart=>exact ⟨10,[],[],v2,v4,ts,rfl,rfl,by simp,by simp,HSV.out,HH.out,HN.out,HV.out,HW2.out,HW4.out,Agr.refl _ _⟩
 case round =>
  obtain ⟨n,N,V,u2,u4,tk,rfl,rfl,hNn,hVn,HSk,HXk,HNk,HVk,HW2k,HW4k,HAk⟩:=hrel
  obtain ⟨n,rfl⟩:∃ m,gk=m+1:=by
   match gk,HSk.out with
   | 0,h=>simp [bBt] at h
   | m+1,_=>exact ⟨m,rfl⟩
  have hss:=HSk.out;rw [bGk] at hss;clear HSk;have hszk:=HAk.out.size
  by_cases hp:aBa (aA4 T) tk=[118,97,114]
  .rw [if_pos hp] at hss
   split at hss
   .cases hss
   .rename_i h6
    rw [Option.bind_eq_some_iff] at hss;obtain ⟨⟨⟨x,y⟩,t1⟩,hvar,hss⟩:=hss;dsimp only at hss;obtain ⟨t,r0,rfl⟩:=aNg (T:=aA4 T) (ts:=tk) (by rw [hp];simp)
    have HVAR:=aA0 hvar;have HSS:=aA0 hss;have HP:=aA0 hp;have d6:((V.length:Int)==6)=false:=by simp;omega
    have e1:IntKind.i64.wrap ((V.length:Int)+1)=((V.length+1:Nat):Int):=by rw [IntWalk.i64_in _ (by omega)];omega
    have hd:((ba [118,97,114]).toList==[118,97,114])=true:=by rw [aD0];rfl
    clear hvar hss hp h6
    go_wp2_with (first
     | (go_at_call 104;refine (aC1 HXk.out).mono ?_;rintro e w1 ⟨rfl,hb⟩;rw [HP.out];have HX1:=aA0 (HXk.out.bel hb);have HB1:=aA0 hb;clear hb)
     | (go_at_call 107;refine (aEk HX1.out).mono ?_;rintro e w2 ⟨rfl,hb,hx⟩;have HX2:=aA0 hx;have HF2:=aA0 ((Fw.of_bel (B:=B) (n:=wr.heap.size) HB1.out).trans (Fw.of_but hb));clear hb hx)
     | (refine (aVj HX2.out (HNk.out.fw HF2.out) (HVk.out.fw HF2.out) (by omega) (by omega) (n0:=n0) (by have:=HF2.out.size;omega) HW2k.out HW4k.out HVAR.out).mono ?_;rintro e w3 ⟨⟨u,rfl⟩,ha,u2',u4',hx,hn',hv',h2',h4'⟩;have HX3:=aA0 hx;have HN3:=aA0 hn';have HV3:=aA0 hv';have HW23:=aA0 h2';have HW43:=aA0 h4';have HA3:=aA0 ((HAk.out.trans (HF2.out.mono (fun q e=>e.elim .inl (fun e => .inr (by omega))))).trans ha);clear ha hx hn' hv' h2' h4'))
    go_roundg n
    case rel=>exact ⟨n,N++[x],V++[y],u2',u4',t1,rfl,by simp,by simp;omega,by simp;omega,HSS.out,HX3.out,HN3.out,HV3.out,HW23.out,HW43.out,HA3.out⟩
    case measure=>omega
  .rw [if_neg hp] at hss
   injection hss with hss
   injection hss with hs1 hs2
   injection hs1 with hs1 hs3
   subst hs1;subst hs2;subst hs3;have hd:((ba (aBa (aA4 T) tk)).toList==[118,97,114])=false:=by rw [aD0];simpa using hp
   clear hp
   go_wp2_with (go_at_call 104;refine (aC1 HXk.out).mono ?_;rintro e w1 ⟨rfl,hb⟩;have HX1:=aA0 (HXk.out.bel hb);have HB1:=aA0 hb;clear hb)
   go_end0
   exact ⟨⟨_,rfl⟩,HAk.out.trans (bH5 HB1.out),u2,u4,HX1.out,HNk.out.fw (Fw.of_bel HB1.out),HVk.out.fw (Fw.of_bel HB1.out),HW2k.out,HW4k.out,by omega,by omega⟩
theorem aUs {w:World} {B:Nat} {T:ByteArray} {ts r:List Tok} {v2 v3 v4 v5 v6:Value} {N:List Wd} {V:List Var} {Rf:List Rule} (h:RdX w B T ts v2 v3 v4 v5 v6) (hN:aS7 w (B+1) v2 N) (hV:aOx w (B+1) v4 V) (hK:aS7 w (B+1) v6 []) (hR:aQ6 w (B+1) v5 []) (hap:aZl v2 v6) (hNl:N.length<=10) {n0:Nat} (hn0:n0<=w.heap.size) (hw5:Nw n0 v5) (hw6:Nw n0 v6) (hv:aN4 (aA4 T) N 20 [] [] ts=some (Rf,r)) (hsz:∀ y∈Rf,y.guard.length<=1000/\∀ s∈y.sets,s.value.length<=1000) :
  Calls prog 58 #[.pointer (some ⟨B,0,none⟩),.string { data:=#[114,117,108,101] },.int .i64 12,.func (.func 60) #[.pointer (some ⟨B,0,none⟩)] #[]] w fun e w'=>(∃ x,e = .returned x)/\Agr (fun q=>q=B∨n0<=q) w w'/\∃ v5' v6',RdX w' B T r v2 v3 v4 v5' v6'/\aOx w' (B+1) v4 V/\aQ6 w' (B+1) v5' Rf/\Rf.length<=20:=by
 have hB:B<w.heap.size:=by obtain ⟨_,_,h⟩:=h;exact h.lt
 have HH:=aA0 h;have HN:=aA0 hN;have HV:=aA0 hV;have HK:=aA0 hK;have HR:=aA0 hR;have HAP:=aA0 hap;have HW5:=aA0 hw5;have HW6:=aA0 hw6;have HSV:=aA0 hv;have HSZ:=aA0 hsz;clear h hN hV hK hR hap hw5 hw6 hv hsz;go_enter func58,ntmps58
 go_wp2_with fail
 go_loopg [8] 20 (fun m cv wr=>∃ (n:Nat) (K:List Wd) (R:List Rule) (u5 u6:Value) (tk:List Tok),m=n/\cv = .int .i64 (R.length:Int)/\K.length+n<=20/\R.length+n<=20/\Hid (aN4 (aA4 T) N n K R tk=some (Rf,r))/\Hid (RdX wr B T tk v2 v3 v4 u5 u6)/\Hid (aS7 wr (B+1) v2 N)/\Hid (aOx wr (B+1) v4 V)/\Hid (aS7 wr (B+1) u6 K)/\Hid (aQ6 wr (B+1) u5 R)/\Hid (aZl v2 u6)/\Hid (Nw n0 u5)/\Hid (Nw n0 u6)/\Hid (Agr (fun q=>q=B∨n0<=q) w wr))
 case atStart=>exact ⟨20,[],[],v5,v6,ts,rfl,rfl,by simp,by simp,HSV.out,HH.out,HN.out,HV.out,HK.out,HR.out,HAP.out,HW5.out,HW6.out,Agr.refl _ _⟩
 case round =>
  obtain ⟨n,K,R,u5,u6,tk,rfl,rfl,hKn,hRn,HSk,HXk,HNk,HVk,HKk,HRk,HAPk,HW5k,HW6k,HAk⟩:=hrel
  obtain ⟨n,rfl⟩:∃ m,gk=m+1:=by
   match gk,HSk.out with
   | 0,h=>simp [aN4] at h
   | m+1,_=>exact ⟨m,rfl⟩
  have hss:=HSk.out;rw [aRv] at hss;clear HSk;have hszk:=HAk.out.size
  by_cases hp:aBa (aA4 T) tk=[114,117,108,101]
  .rw [if_pos hp] at hss
   split at hss
   .cases hss
   .rename_i h6
    rw [Option.bind_eq_some_iff] at hss;obtain ⟨⟨⟨x,y⟩,t1⟩,hvar,hss⟩:=hss;dsimp only at hss;obtain ⟨M,hM⟩:=aRu hss;have hy:=HSZ.out y (by rw [hM];simp)
    obtain ⟨t,r0,rfl⟩:=aNg (T:=aA4 T) (ts:=tk) (by rw [hp];simp)
    have HVAR:=aA0 hvar;have HSS:=aA0 hss;have HP:=aA0 hp;have HY:=aA0 hy;have d6:((R.length:Int)==12)=false:=by simp;omega
    have e1:IntKind.i64.wrap ((R.length:Int)+1)=((R.length+1:Nat):Int):=by rw [IntWalk.i64_in _ (by omega)];omega
    have hd:((ba [114,117,108,101]).toList==[114,117,108,101])=true:=by rw [aD0];rfl
    clear hvar hss hp h6 hM hy
    go_wp2_with (first
     | (go_at_call 104;refine (aC1 HXk.out).mono ?_;rintro e w1 ⟨rfl,hb⟩;rw [HP.out];have HX1:=aA0 (HXk.out.bel hb);have HB1:=aA0 hb;clear hb)
     | (go_at_call 107;refine (aEk HX1.out).mono ?_;rintro e w2 ⟨rfl,hb,hx⟩;have HX2:=aA0 hx;have HF2:=aA0 ((Fw.of_bel (B:=B) (n:=wr.heap.size) HB1.out).trans (Fw.of_but hb));clear hb hx)
     | (refine (bJc HX2.out (HNk.out.fw HF2.out) (HVk.out.fw HF2.out) (HKk.out.fw HF2.out) (HRk.out.fw HF2.out) HAPk.out (by omega) (by omega) (by omega) HVAR.out (n0:=n0) (by have:=HF2.out.size;omega) HW5k.out HW6k.out HY.out.1 HY.out.2).mono ?_;rintro e w3 ⟨⟨u,rfl⟩,ha,u5',u6',hx,hn',hv',hk',hr',hap',h5',h6'⟩;have HX3:=aA0 hx;have HN3:=aA0 hn';have HV3:=aA0 hv';have HK3:=aA0 hk';have HR3:=aA0 hr';have HAP3:=aA0 hap';have HW53:=aA0 h5';have HW63:=aA0 h6';have HA3:=aA0 ((HAk.out.trans (HF2.out.mono (fun q e=>e.elim .inl (fun e => .inr (by omega))))).trans ha);clear ha hx hn' hv' hk' hr' hap' h5' h6'))
    go_roundg n
    case rel=>exact ⟨n,K++[x],R++[y],u5',u6',t1,rfl,by simp,by simp;omega,by simp;omega,HSS.out,HX3.out,HN3.out,HV3.out,HK3.out,HR3.out,HAP3.out,HW53.out,HW63.out,HA3.out⟩
    case measure=>omega
  .rw [if_neg hp] at hss
   injection hss with hss
   injection hss with hs1 hs2
   subst hs1;subst hs2;have hd:((ba (aBa (aA4 T) tk)).toList==[114,117,108,101])=false:=by rw [aD0];simpa using hp
   clear hp
   go_wp2_with (go_at_call 104;refine (aC1 HXk.out).mono ?_;rintro e w1 ⟨rfl,hb⟩;have HX1:=aA0 (HXk.out.bel hb);have HB1:=aA0 hb;clear hb)
   go_end0
   exact ⟨⟨_,rfl⟩,HAk.out.trans (bH5 HB1.out),u5,u6,HX1.out,HVk.out.fw (Fw.of_bel HB1.out),HRk.out.fw (Fw.of_bel HB1.out),by omega⟩
theorem bP8 (v:Value):aZl v (.slice none 0 0):=by
 unfold aZl;cases v.ownBlock with
 | none=>exact .inl rfl
 | some q=>right;simp [Value.ownBlock]
theorem bMc {w:World} {B:Nat} {T:ByteArray} {ts:List Tok} {v3:Value} {p:Prg} (h:RdX w B T ts (.slice none 0 0) v3 (.slice none 0 0) (.slice none 0 0) (.slice none 0 0)) (hv:bKf (aA4 T) ts=some p) (hsz:∀ y∈p.rules,y.guard.length<=1000/\∀ s∈y.sets,s.value.length<=1000) :
  Calls prog 28 #[.pointer (some ⟨B,0,none⟩)] w fun e w'=>(∃ x,e = .returned x)/\Fw B w.heap.size w w'/\∃ v2 v4 v5 v6,RdX w' B T [] v2 (.string p.name) v4 v5 v6/\aOx w' (B+1) v4 p.vars/\aQ6 w' (B+1) v5 p.rules/\p.vars.length<=10/\p.rules.length<=20:=by
 have hB:B<w.heap.size:=by obtain ⟨_,_,h⟩:=h;exact h.lt
 unfold bKf at hv;rw [Option.bind_eq_some_iff] at hv;obtain ⟨t1,q1,hv⟩:=hv;rw [Option.bind_eq_some_iff] at hv;obtain ⟨⟨x,t2⟩,q2,hv⟩:=hv;dsimp only at hv;rw [Option.bind_eq_some_iff] at hv;obtain ⟨t3,q3,hv⟩:=hv;rw [Option.bind_eq_some_iff] at hv;obtain ⟨⟨⟨N,V⟩,t4⟩,q4,hv⟩:=hv;dsimp only at hv;rw [Option.bind_eq_some_iff] at hv;obtain ⟨⟨R,t5⟩,q5,hv⟩:=hv;dsimp only at hv;split at hv
 .rename_i h5
  injection hv with hv
  subst hv;subst h5;dsimp only at hsz;have HH:=aA0 h;have Q2:=aA0 q2;have Q4:=aA0 q4;have Q5:=aA0 q5;have HSZ:=aA0 hsz;have C1:=aA0 (fun (w0:World) (hx:RdX w0 B T ts (.slice none 0 0) v3 (.slice none 0 0) (.slice none 0 0) (.slice none 0 0))=>aC9 hx { data:=#[112,114,111,103,114,97,109] } (by decide) q1)
  have C3:=aA0 (fun (w0:World) (u:Value) (hx:RdX w0 B T t2 (.slice none 0 0) u (.slice none 0 0) (.slice none 0 0) (.slice none 0 0))=>aC9 hx { data:=#[59] } (by decide) q3)
  have hnw:Hid (∀ n,Nw n (.slice none 0 0)):=fun n k hk=>by cases hk
  have M1:=aA0 (fun (w0:World) (u3:Value) (hx:RdX w0 B T t3 (.slice none 0 0) u3 (.slice none 0 0) (.slice none 0 0) (.slice none 0 0)) (hle:w.heap.size<=w0.heap.size)=>aY5 hx ⟨none,0,rfl,World.ownsRow_nil _ _ _ _⟩ ⟨none,0,rfl,World.ownsRow_nil _ _ _ _⟩ hle (hnw.out _) (hnw.out _) q4);have M2:=aA0 (fun (w0:World) (u2 u3 u4:Value) (hx:RdX w0 B T t4 u2 u3 u4 (.slice none 0 0) (.slice none 0 0)) (hn:aS7 w0 (B+1) u2 N) (hv:aOx w0 (B+1) u4 V) (hl:N.length<=10) (hle:w.heap.size<=w0.heap.size)=>aUs hx hn hv ⟨none,0,rfl,World.ownsRow_nil _ _ _ _⟩ ⟨none,0,[],rfl,World.ownsRow_nil _ _ _ _,aJf.nil _ _⟩ (bP8 _) hl hle (hnw.out _) (hnw.out _) q5 hsz);clear h q1 q2 q3 q4 q5 hsz;go_enter func28,ntmps28
  go_wp2_with (first
   | (go_at_call 56;(with_reducible refine (C1.out _ HH.out).mono ?_);rintro e w1 ⟨⟨u1,rfl⟩,hb,hx⟩;have HX1:=aA0 hx;have HF1:=aA0 (Fw.of_but (n:=w.heap.size) hb);clear hb hx)
   | (go_at_call 57;refine (aK1 (K:=[]) HX1.out aAc.nil (by simp) Q2.out).mono ?_;rintro e w2 ⟨rfl,hb,hx⟩;obtain ⟨A2,k2,hr2⟩:=id hx;have y3:=hr2.blk.cell 3 (v:=v3) rfl;have f3:=hr2.blk.frozen 3;have l3:=hr2.blk.lt;have HX3:Hid (RdX (w2.setCell ⟨B,3,none⟩ (.string (ba x))) B T t2 (.slice none 0 0) (.string (ba x)) (.slice none 0 0) (.slice none 0 0) (.slice none 0 0)):=⟨A2,k2,hr2.put 3 (.string (ba x)) rfl⟩;have HF3:=aA0 ((HF1.out.trans (Fw.of_but hb)).trans (Agr.setCell (E:=fun q=>q=B∨w.heap.size<=q) w2 ⟨B,3,none⟩ (.string (ba x)) (.inl rfl)));clear hb hx hr2)
   | (go_at_call 56;(with_reducible refine (C3.out _ _ HX3.out).mono ?_);rintro e w4 ⟨⟨u4,rfl⟩,hb,hx⟩;have HX4:=aA0 hx;have HF4:=aA0 (HF3.out.trans (Fw.of_but hb));clear hb hx)
   | (go_at_call 58;(with_reducible refine (M1.out _ _ HX4.out HF4.out.size).mono ?_);rintro e w5 ⟨⟨u5,rfl⟩,ha,v2,v4,hx,hn,hv,h2,h4,hl1,hl2⟩;have HX5:=aA0 hx;have HN5:=aA0 hn;have HV5:=aA0 hv;have HF5:=aA0 (HF4.out.trans ha);clear ha hx hn hv h2 h4)
   | (go_at_call 58;(with_reducible refine (M2.out _ _ _ _ HX5.out HN5.out HV5.out hl1 HF5.out.size).mono ?_);rintro e w6 ⟨⟨u6,rfl⟩,ha,v5,v6,hx,hv,hr,hl3⟩;have HX6:=aA0 hx;have HV6:=aA0 hv;have HR6:=aA0 hr;have HF6:=aA0 (HF5.out.trans ha);clear ha hx hv hr)
   | (go_at_call 61;refine (bLe HX6.out).mono ?_;rintro e w7 ⟨rfl,rfl⟩))
  go_end0
  exact ⟨⟨_,rfl⟩,HF6.out,v2,v4,v5,v6,HX6.out,HV6.out,HR6.out,hl2,hl3⟩
 .cases hv
theorem aVn (w:World):Calls prog 55 #[.nilIface] w fun e w'=>e = .returned (.tuple #[.agg #[.int .i64 0,.int .i64 0],.bool false])/\Bel w w':=by
 go_enter func55,ntmps55;go_wp2;have hb:Blk (w.alloc (.cells #[.int .i64 0,.int .i64 0] 123)) w.heap.size #[.int .i64 0,.int .i64 0] 123:=aB4 _ _;have y0:=hb.cell 0 (v := .int .i64 0) rfl;have y1:=hb.cell 1 (v := .int .i64 0) rfl;refine bodyPost_ret (v := .tuple #[.agg #[.int .i64 0,.int .i64 0],.bool false]) (by simp [results,Tryz.results55,go_sem,y0,y1]) rfl ⟨rfl,(Bel.refl w).alloc _⟩
theorem bLq (p q:Addr) (w:World) :
  CallsD prog 54 #[.pointer (some p),.pointer (some q)] .returning w fun e u' w'=>(∃ x,e = .returned x)/\u' = .returning/\Bel w w':=by
 refine callsD_of_wpS func54 rfl fun c₀ cs hu=>?_
 apply wpS_seq
 apply wpS_region
 simp [wpOpsS,go_sem,recoverD,hu,ntmps54,Exit.thenS]
 refine (aVn w).mono ?_
 rintro e w1 ⟨rfl,hb⟩;simp [go_sem]
 apply wpS_seq
 apply wpS_region
 simp [wpOpsS,go_sem,Exit.thenS]
 refine wpS_cond (t:=false) (by simp [Act.eval]) ?_
 simp only [Bool.false_eq_true,if_false]
 refine wpS_of_wp (wp_skip ?_)
 cases c₀
 simp_all [bodyPostS,results,Tryz.results54]
 exact hb.alloc _
theorem aQ6.keep {B:Nat} {w w':World} {v:Value} {L:List Rule} (h:aQ6 w (B+1) v L) (hk:aEl (B+1) w w') (hr:∀ {size n:Nat} {v:Value} {xs:List Value},w.ownsRow (B+1) 137 size v n xs->w'.ownsRow (B+1) 137 size v n xs):aQ6 w' (B+1) v L:=by
 obtain ⟨A,c,hs,e,h,hd⟩:=h;exact ⟨A,c,hs,e,hr h,hd.keep hk⟩
theorem aQ6.setB {B X:Nat} {t:TypeId} {cs:Array Value} {w:World} {v:Value} {L:List Rule} (h:aQ6 w (B+1) v L) (hb:Blk w X cs t) (h1:t≠235) (h2:t≠197) (h3:t≠137) (i:Nat) (u:Value):aQ6 (w.setCell ⟨X,i,none⟩ u) (B+1) v L :=
 h.keep (fun he hx=>aDg hx hb (by rcases he with rfl | rfl;exact h1;exact h2) i u) (fun hx=>aDg hx hb h3 i u)
theorem aOx.setB {B X:Nat} {t:TypeId} {cs:Array Value} {w:World} {v:Value} {L:List Var} (h:aOx w (B+1) v L) (hb:Blk w X cs t) (h1:t≠132) (i:Nat) (u:Value):aOx (w.setCell ⟨X,i,none⟩ u) (B+1) v L:=by
 obtain ⟨A,c,e,h⟩:=h;exact ⟨A,c,e,aDg h hb h1 i u⟩
theorem aOx.keepB {B:Nat} {w w':World} {v:Value} {L:List Var} (h:aOx w (B+1) v L) (k:Bel w w'):aOx w' (B+1) v L:=by
 obtain ⟨A,c,e,h⟩:=h;exact ⟨A,c,e,k.owns h⟩
theorem aQ6.keepB {B:Nat} {w w':World} {v:Value} {L:List Rule} (h:aQ6 w (B+1) v L) (k:Bel w w'):aQ6 w' (B+1) v L :=
 h.keep (aEl.of_bel k) (fun hx=>k.owns hx)
theorem bHg {w:World} {B:Nat} {T:ByteArray} {ts:List Tok} {v3:Value} {p:Prg} (h:RdX w B T ts (.slice none 0 0) v3 (.slice none 0 0) (.slice none 0 0) (.slice none 0 0)) (hv:bKf (aA4 T) ts=some p) (hsz:∀ y∈p.rules,y.guard.length<=1000/\∀ s∈y.sets,s.value.length<=1000) :
  Calls prog 27 #[.func (.func 28) #[.pointer (some ⟨B,0,none⟩)] #[]] w fun e w'=>e = .returned (.tuple #[.int .i64 0,.int .i64 0])/\Fw B w.heap.size w w'/\∃ v2 v4 v5 v6,RdX w' B T [] v2 (.string p.name) v4 v5 v6/\aOx w' (B+1) v4 p.vars/\aQ6 w' (B+1) v5 p.rules/\p.vars.length<=10/\p.rules.length<=20:=by
 have hB:B<w.heap.size:=by obtain ⟨_,_,h⟩:=h;exact h.lt
 have HH:=aA0 h;have HV:=aA0 hv;have HSZ:=aA0 hsz;clear h hv hsz;have hmf:∀ (fn:Fn) (first cap:Array Value) (w:World),(Instr.makeFunc fn first cap).run prog w = .ok (.func fn first cap) w:=fun _ _ _ _=>rfl
 go_enter_defers func27,ntmps27
 have hb0:Blk ((w.alloc (.cells #[.int .i64 0] 3)).alloc (.cells #[.int .i64 0] 32)) w.heap.size #[.int .i64 0] 3:=(Blk.new w _ _).alloc _;have hb1:Blk ((w.alloc (.cells #[.int .i64 0] 3)).alloc (.cells #[.int .i64 0] 32)) (w.heap.size+1) #[.int .i64 0] 32:=by have:=Blk.new (w.alloc (.cells #[.int .i64 0] 3)) #[.int .i64 0] 32;rwa [World.size_alloc] at this
 have K0:=aA0 hb0;have K1:=aA0 hb1;clear hb0 hb1
 go_wp2_with (refine (bMc (HH.out.bel (((Bel.refl w).alloc _).alloc _)) HV.out HSZ.out).mono ?_;rintro e w1 ⟨⟨u,rfl⟩,hf,v2,v4,v5,v6,hx,hv,hr,hl1,hl2⟩;have hsz1:=hf.size;simp only [World.size_alloc] at hsz1;have HX1:=aA0 hx;have HV1:=aA0 hv;have HR1:=aA0 hr;have HF1:=aA0 hf;have K2:=aA0 (show Blk w1 w.heap.size #[.int .i64 0] 3 from (hf.block _ K0.out.lt (by simp only [World.size_alloc];omega)).trans K0.out);have K3:=aA0 (show Blk w1 (w.heap.size+1) #[.int .i64 0] 32 from (hf.block _ K1.out.lt (by simp only [World.size_alloc];omega)).trans K1.out);have c0:=K2.out.cell 0 (v := .int .i64 0) rfl;have c1:=K3.out.cell 0 (v := .int .i64 0) rfl;have f0:=K2.out.frozen 0;have f1:=K3.out.frozen 0;clear hf hx hv hr)
 have A2:Agr (fun q=>q=w.heap.size) w1 (w1.setCell ⟨w.heap.size,0,none⟩ (.int .i64 0)):=Agr.setCell _ _ _ rfl;have A3:Agr (fun q=>q=w.heap.size+1) (w1.setCell ⟨w.heap.size,0,none⟩ (.int .i64 0)) ((w1.setCell ⟨w.heap.size,0,none⟩ (.int .i64 0)).setCell ⟨w.heap.size+1,0,none⟩ (.int .i64 0)):=Agr.setCell _ _ _ rfl;have M0:=(K2.out.set 0 (.int .i64 0)).other (a:=⟨w.heap.size+1,0,none⟩) (by show w.heap.size≠w.heap.size+1;omega) (.int .i64 0)
 have M1':=K3.out.other (a:=⟨w.heap.size,0,none⟩) (by show w.heap.size+1≠w.heap.size;omega) (.int .i64 0)
 have M1:=M1'.set 0 (.int .i64 0);have HX2:=aA0 ((HX1.out.agrX A2 (by omega)).agrX A3 (by omega))
 have HV2:=aA0 ((HV1.out.setB K2.out (by decide) 0 (.int .i64 0)).setB M1' (by decide) 0 (.int .i64 0))
 have HR2:=aA0 ((HR1.out.setB K2.out (by decide) (by decide) (by decide) 0 (.int .i64 0)).setB M1' (by decide) (by decide) (by decide) 0 (.int .i64 0))
 have HF2:=aA0 ((((Fw.of_bel (((Bel.refl w).alloc _).alloc _)).trans (HF1.out.mono (E':=fun q=>q=B∨w.heap.size<=q) (fun q e=>e.elim .inl (fun e => .inr (by simp only [World.size_alloc] at e;omega))))).trans (A2.mono (fun q e => .inr (by omega)))).trans (A3.mono (fun q e => .inr (by omega))))
 clear A2 A3 M1';refine leaves_cons (f:=54) (args:=#[.pointer (some ⟨w.heap.size,0,none⟩),.pointer (some ⟨w.heap.size+1,0,none⟩)]) (by simp) (by simp [go_sem]) ?_
 refine (bLq _ _ _).mono ?_
 rintro e u' w3 ⟨⟨x,rfl⟩,rfl,hb⟩;have y0:=(M0.keep hb).cell 0 (v := .int .i64 0) rfl;have y1:=(M1.keep hb).cell 0 (v := .int .i64 0) rfl;simp [Leaves,settle,results,Tryz.results27,go_sem,y0,y1]
 exact ⟨HF2.out.trans (Fw.of_bel hb),v2,v4,v5,⟨v6,HX2.out.bel hb⟩,HV2.out.keepB hb,HR2.out.keepB hb,hl1,hl2⟩
theorem bCi {α:Type} {f:α->List Value} {size:Nat} (hl:∀ x,(f x).length=size):∀ xs:List α,(xs.flatMap f).length=xs.length*size
 | []=>by simp
 | x :: xs=>by rw [List.flatMap_cons,List.length_append,hl,bCi hl xs,List.length_cons,Nat.succ_mul];omega
theorem aNs {α:Type} {f:α->List Value} {size:Nat} (hl:∀ x,(f x).length=size):∀ (xs:List α) (i:Nat) (x:α) (j:Nat) (u:Value),xs[i]?=some x->(f x)[j]?=some u->(xs.flatMap f)[i*size+j]?=some u
 | [],i,x,j,u,h,_=>by simp at h
 | y :: xs,0,x,j,u,h,hu=>by
  simp at h;subst h
  rw [List.flatMap_cons,Nat.zero_mul,Nat.zero_add,List.getElem?_append_left (List.getElem?_eq_some_iff.1 hu).1];exact hu
 | y :: xs,i+1,x,j,u,h,hu=>by
  rw [List.flatMap_cons,List.getElem?_append_right (by rw [hl,Nat.succ_mul];omega),hl,show (i+1)*size+j-size=i*size+j by rw [Nat.succ_mul];omega]
  exact aNs hl xs i x j u (by simpa using h) hu
theorem aOg {α:Type} {size:Nat} {E:World->Nat->Nat->α->Prop} {f:α->List Value} {w:World} {base e:Nat} {A:Option Addr} {n c:Nat} {xs:List α} (hs:0<size) (hl:∀ x,(f x).length=size) (hE:∀ g o x,g<w.heap.size->(∀ j u,(f x)[j]?=some u->w.cell? ⟨g,o+j,none⟩=some u)->E w g o x) (h:w.ownsRow base e size (.slice A n c) n (xs.flatMap f)):aAc size E w A n xs:=by
 refine ⟨by have:=h.1;rw [bCi hl] at this;exact Nat.eq_of_mul_eq_mul_right hs this,fun i x hx=>?_⟩
 obtain ⟨u0,hu0⟩:∃ u,(f x)[0]?=some u:=⟨_,List.getElem?_eq_getElem (by rw [hl];exact hs)⟩
 obtain ⟨g,rfl,_,hg,_⟩:=aAn h (aNs hl xs i x 0 u0 hx hu0);refine ⟨g,0,rfl,hg,hE g _ x hg (fun j u hu=>?_)⟩
 obtain ⟨g',e',_,_,hc,_⟩:=aAn h (aNs hl xs i x j u hx hu);injection e' with e';injection e' with e';subst e'
 rw [Nat.zero_add];exact hc
theorem bFu {w:World} {base e:Nat} {A:Option Addr} {n c:Nat} {V:List Var} (h:w.ownsRow base e 6 (.slice A n c) n (V.flatMap vC)):aNj w A n V :=
 aOg (by decide) (fun _=>rfl) (fun g o x _ k=>⟨k 0 _ rfl,k 1 _ rfl,k 2 _ rfl,k 3 _ rfl,k 4 _ rfl,k 5 _ rfl⟩) h
theorem bM9 {w:World} {base e B:Nat} {A:Option Addr} {n c:Nat} {ts:List Tok} (hB:w.heap.size<=B) (h:w.ownsRow base e 4 (.slice A n c) n (aHp ts)):aAc 4 (bGt B) w A n ts :=
 aOg (by decide) (fun _=>rfl) (fun g o x hg k=>⟨by omega,k 0 _ rfl,k 1 _ rfl,k 2 _ rfl,k 3 _ rfl⟩) h
theorem bM8 {w:World} {base e N:Nat} {A:Option Addr} {n c:Nat} {L:List SetT} {ss:List Value} (h:w.ownsRow base e 2 (.slice A n c) n ss) (hs:aPe w N ss L):aQa w A n L:=by
 refine ⟨by have:=h.1;have:=hs.1;omega,fun i t ht=>?_⟩
 obtain ⟨G,k,h1,h2,h3⟩:=hs.2 i t ht;obtain ⟨g,rfl,_,hg,c1,_⟩:=aAn h h1;obtain ⟨g',e',_,_,c2,_⟩:=aAn h h2;injection e' with e';injection e' with e';subst e'
 refine ⟨g,0,rfl,hg,by rw [Nat.zero_add];exact c1,G,k,by rw [Nat.zero_add];exact c2,aRk h3,aCv h3⟩
theorem bIx {w:World} {base e N:Nat} {A:Option Addr} {n c:Nat} {R:List Rule} {hs:List Value} (h:w.ownsRow base e 3 (.slice A n c) n hs) (hr:aJf w N hs R):aJg w A n R:=by
 refine ⟨by have:=h.1;have:=hr.1;omega,fun i r hx=>?_⟩
 obtain ⟨G,gc,S,sc,ss,h1,h2,h3,h4⟩:=hr.2 i r hx;obtain ⟨g,rfl,_,hg,c1,_⟩:=aAn h h1;obtain ⟨g',e',_,_,c2,_⟩:=aAn h h2;injection e' with e';injection e' with e';subst e'
 obtain ⟨g',e',_,_,c3,_⟩:=aAn h h3;injection e' with e';injection e' with e';subst e'
 exact ⟨g,0,rfl,hg,by rw [Nat.zero_add];exact c1,⟨G,gc,by rw [Nat.zero_add];exact c2,aRk h4.guard,aCv h4.guard⟩,S,sc,by rw [Nat.zero_add];exact c3,bM8 h4.sets h4.vals,aCv h4.sets⟩
theorem bDc {w:World} {B:Nat} {v4 v5:Value} {p:Prg} (hv:aOx w (B+1) v4 p.vars) (hr:aQ6 w (B+1) v5 p.rules):aKy w (.agg #[.string p.name,v4,v5]) p:=by
 obtain ⟨A,c,rfl,hv⟩:=hv;obtain ⟨A2,c2,hs,rfl,hr,hp⟩:=hr;exact ⟨A,c,A2,c2,rfl,bFu hv,(aCv hv).1,(aCv hv).2,bIx hr hp,(aCv hr).1,(aCv hr).2⟩
theorem aOx.setX {B:Nat} {w:World} {v:Value} {L:List Var} (h:aOx w (B+1) v L) {a:Addr} (ha:a.block<B) (u:Value):aOx (w.setCell a u) (B+1) v L:=by
 obtain ⟨A,c,e,h⟩:=h;exact ⟨A,c,e,aAi h (Nat.lt_succ_of_lt ha) u⟩
theorem aQ6.setX {B:Nat} {w:World} {v:Value} {L:List Rule} (h:aQ6 w (B+1) v L) {a:Addr} (ha:a.block<B) (u:Value):aQ6 (w.setCell a u) (B+1) v L :=
 h.keep (fun _ hx=>aAi hx (Nat.lt_succ_of_lt ha) u) (fun hx=>aAi hx (Nat.lt_succ_of_lt ha) u)
theorem bDh (T:ByteArray):∀ (n k:Nat) (ts:List Tok),aOm (aA4 T) n k=some ts->∀ t∈ts,bNg T t
 | 0,_,_,h=>by simp [aOm] at h
 | n+1,k,ts,h=>by
  unfold aOm at h;split at h
  .rename_i hk
   rw [aAx] at hk;split at h
   .rename_i t ht
    split at h
    .rename_i r hr
     injection h with h;subst h
     obtain ⟨h1,h2,h3,_⟩:=bD1 hk ht;intro t' ht'
     rcases List.mem_cons.1 ht' with rfl | ht'
     .exact ⟨by omega,h2⟩
     .exact bDh T n _ r hr t' ht'
    .cases h
   .cases h
  .injection h with h;subst h
   intro t ht;cases ht
theorem bGf {T:ByteArray} {ts:List Tok} (h:aH6 (aA4 T)=some ts):(∀ t∈ts,bNg T t)/\T.size<=16384:=by
 unfold aH6 at h;split at h
 .rename_i hc
  rw [Bool.and_eq_true,decide_eq_true_iff,aAx] at hc;exact ⟨bDh T _ _ _ h,hc.2⟩
 .cases h
theorem aRl (T:ByteArray) (ts:List Tok) (p:Prg) (w:World) (hN:ts.length<=4000) (ht:aH6 (aA4 T)=some ts) (hv:bKf (aA4 T) ts=some p) (hsz:∀ y∈p.rules,y.guard.length<=1000/\∀ s∈y.sets,s.value.length<=1000) (hne:p.vars.length≠0) (hL:aCi p=true) (hc:aBw p=0) :
  Calls prog 9 #[.string T] w fun e w'=>(∃ v,e = .returned (.tuple #[v,.int .i64 0,.int .i64 0])/\aKy w' v p)/\Bel w w':=by
 have HT:=aA0 ht;have HV:=aA0 hv;have HSZ:=aA0 hsz;have HL:=aA0 hL;have HC:=aA0 hc;have HOK:=aA0 (bGf ht);clear ht hv hsz hL hc;have hz:((p.vars.length:Int)==0)=false:=by rw [beq_eq_false_iff_ne];omega
 go_enter func9,ntmps9
 go_wp2_with (first
  | (go_at_call 26;refine (bMs T ts _ hN HT.out).mono ?_;rintro e w1 ⟨⟨At,ct,rfl,ho⟩,hb⟩;have HB1:=aA0 (((Bel.refl w).alloc _).trans hb);have X1:=aA0 ((Blk.new w #[.string { data:=#[] },.slice none 0 0,.slice none 0 0] 31).keep hb);have HX1:=aA0 (show RdX (w1.alloc (.cells #[.string T,.slice At ts.length ct,.slice none 0 0,.string { data:=#[] },.slice none 0 0,.slice none 0 0,.slice none 0 0] 81)) w1.heap.size T ts (.slice none 0 0) (.string { data:=#[] }) (.slice none 0 0) (.slice none 0 0) (.slice none 0 0) from ⟨At,ct,Blk.new _ _ _,bNl.agr (bM9 (Nat.le_refl _) ho) (Agr.alloc (fun _=>False) _ _) (fun _ h=>h.elim),aCv ho,hN,HOK.out.1,HOK.out.2⟩);clear ho hb)
  | (refine (bHg (B:=w1.heap.size) (ts:=ts) (T:=T) (v3 := .string { data:=#[] }) (p:=p) HX1.out HV.out HSZ.out).mono ?_;rintro e w3 ⟨rfl,hf,v2,v4,v5,v6,hx,hv,hr,hl1,hl2⟩;have hle1:=HB1.out.size;have hle3:=hf.size;simp only [World.size_alloc] at hle3;have hX0:=X1.out.lt;have X3:=aA0 (show Blk w3 w.heap.size #[.string { data:=#[] },.slice none 0 0,.slice none 0 0] 31 from (hf.block _ (X1.out.alloc _).lt (by simp only [World.size_alloc];omega)).trans (X1.out.alloc _));have HB3:=aA0 (Agr.belE (HB1.out.alloc _) hf (fun k e=>by simp only [World.size_alloc] at e;omega));have HX3:=aA0 hx;have HV3:=aA0 hv;have HR3:=aA0 hr;obtain ⟨A4,c4,rfl,_⟩:=id hv;obtain ⟨A5,c5,_,rfl,_⟩:=id hr;obtain ⟨A',k',hrd⟩:=id hx;have y3:=hrd.blk.cell 3 (v := .string p.name) rfl;have y4:=hrd.blk.cell 4 (v := .slice A4 p.vars.length c4) rfl;have y5:=hrd.blk.cell 5 (v := .slice A5 p.rules.length c5) rfl;have hlB:=hrd.blk.lt;clear hf hx hv hr hrd)
  | (refine (aWw _ p _ (bDc HV3.out HR3.out) HL.out).mono ?_;rintro e w4 ⟨rfl,hb⟩;rw [HC.out];have hle4:=hb.size;have X4:=aA0 (X3.out.keep hb);have HB4:=aA0 (HB3.out.trans hb);have HV4:=aA0 (HV3.out.keepB hb);have HR4:=aA0 (HR3.out.keepB hb);obtain ⟨A',k',hrd⟩:=id (HX3.out.bel hb);have z3:=hrd.blk.cell 3 (v := .string p.name) rfl;have z4:=hrd.blk.cell 4 (v := .slice A4 p.vars.length c4) rfl;have z5:=hrd.blk.cell 5 (v := .slice A5 p.rules.length c5) rfl;have hlB4:=hrd.blk.lt;have x0:=X4.out.cell 0 (v := .string { data:=#[] }) rfl;have x1:=X4.out.cell 1 (v := .slice none 0 0) rfl;have x2:=X4.out.cell 2 (v := .slice none 0 0) rfl;have q0:=X4.out.frozen 0;have q1:=X4.out.frozen 1;have q2:=X4.out.frozen 2;clear hb hrd))
 have M:=((X4.out.set 0 (.string p.name)).set 1 (.slice A4 p.vars.length c4)).set 2 (.slice A5 p.rules.length c5);have m0:=M.cell 0 (v := .string p.name) rfl;have m1:=M.cell 1 (v := .slice A4 p.vars.length c4) rfl;have m2:=M.cell 2 (v := .slice A5 p.rules.length c5) rfl;have hX:w.heap.size<w1.heap.size:=by omega
 refine bodyPost_ret (v := .tuple #[.agg #[.string p.name,.slice A4 p.vars.length c4,.slice A5 p.rules.length c5],.int .i64 0,.int .i64 0]) (by simp [results,Tryz.results9,go_sem,m0,m1,m2]) rfl ⟨⟨_,rfl,?_⟩,((HB4.out.setCell (Nat.le_refl _) _).setCell (Nat.le_refl _) _).setCell (Nat.le_refl _) _⟩
 exact bDc (((HV4.out.setX hX _).setX hX _).setX hX _) (((HR4.out.setX hX _).setX hX _).setX hX _)
variable {p:Prg} {g:Graph} {kind:Int} {c:aA2}
theorem aId {α:Type} {o:Option α} {d:α} (h:o.isSome=true):o=some (o.getD d):=by cases o with | none=>cases h | some x=>rfl
def txC:List UInt8:=[112,114,111,103,114,97,109,32,99,111,108,111,117,114,115,59,32,118,97,114,32,99,32,58,32,48,32,46,46,32,110,59,32,114,117,108,101,32,102,105,120,58,32,115,111,109,101,40,113,46,99,32,61,61,32,99,41,32,45,62,32,99,32,58,61,32,109,101,120,40,113,46,99,41,59]
def tkC:List Tok:=(aH6 txC).getD []
theorem bPz:aH6 txC=some tkC:=aId (by decide +kernel)
def prC:Prg:=(bKf txC tkC).getD ⟨ByteArray.empty,[],[]⟩
theorem bPt:bKf txC tkC=some prC:=aId (by decide +kernel)
theorem aK4:tkC.length<=4000/\(∀ y∈prC.rules,y.guard.length<=1000/\∀ s∈y.sets,s.value.length<=1000)/\prC.vars.length≠0/\aCi prC=true/\aBw prC=0:=by decide +kernel
def txM:List UInt8:=[112,114,111,103,114,97,109,32,109,101,109,98,101,114,115,59,32,118,97,114,32,109,32,58,32,98,111,111,108,59,32,114,117,108,101,32,108,101,97,118,101,58,32,109,32,38,38,32,115,111,109,101,40,113,46,109,41,32,45,62,32,109,32,58,61,32,102,97,108,115,101,59,32,114,117,108,101,32,101,110,116,101,114,58,32,33,109,32,38,38,32,33,115,111,109,101,40,113,46,109,41,32,45,62,32,109,32,58,61,32,116,114,117,101,59]
def tkM:List Tok:=(aH6 txM).getD []
theorem bQ0:aH6 txM=some tkM:=aId (by decide +kernel)
def prM:Prg:=(bKf txM tkM).getD ⟨ByteArray.empty,[],[]⟩
theorem bPv:bKf txM tkM=some prM:=aId (by decide +kernel)
theorem aF8:tkM.length<=4000/\(∀ y∈prM.rules,y.guard.length<=1000/\∀ s∈y.sets,s.value.length<=1000)/\prM.vars.length≠0/\aCi prM=true/\aBw prM=0:=by decide +kernel
def txP:List UInt8:=[112,114,111,103,114,97,109,32,112,97,105,114,115,59,32,118,97,114,32,112,32,58,32,112,111,114,116,59,32,114,117,108,101,32,97,99,99,101,112,116,58,32,112,32,61,61,32,110,111,110,101,32,38,38,32,115,111,109,101,40,113,46,112,32,61,61,32,113,46,98,97,99,107,41,32,45,62,32,112,32,58,61,32,102,105,114,115,116,40,113,46,112,32,61,61,32,113,46,98,97,99,107,41,59,32,114,117,108,101,32,112,114,111,112,111,115,101,58,32,112,32,61,61,32,110,111,110,101,32,38,38,32,115,111,109,101,40,113,46,112,32,61,61,32,110,111,110,101,41,32,45,62,32,112,32,58,61,32,102,105,114,115,116,40,113,46,112,32,61,61,32,110,111,110,101,41,59,32,114,117,108,101,32,119,105,116,104,100,114,97,119,58,32,115,111,109,101,40,113,32,61,61,32,112,32,38,38,32,113,46,112,32,33,61,32,110,111,110,101,32,38,38,32,113,46,112,32,33,61,32,113,46,98,97,99,107,41,32,45,62,32,112,32,58,61,32,110,111,110,101,59]
def tkP:List Tok:=(aH6 txP).getD []
theorem bQ1:aH6 txP=some tkP:=aId (by decide +kernel)
def prP:Prg:=(bKf txP tkP).getD ⟨ByteArray.empty,[],[]⟩
theorem bPx:bKf txP tkP=some prP:=aId (by decide +kernel)
theorem aH1:tkP.length<=4000/\(∀ y∈prP.rules,y.guard.length<=1000/\∀ s∈y.sets,s.value.length<=1000)/\prP.vars.length≠0/\aCi prP=true/\aBw prP=0:=by decide +kernel
def aEr (g:Graph) (v:Nat):List Nat:=(g.ports.getD v []).map fun l=>l.to.toNat
theorem aEd {g:Graph} (hg:GOK g) {v u:Nat} (h:u∈aEr g v):u<g.ports.length/\v<g.ports.length/\v∈aEr g u:=by
 unfold aEr at h
 by_cases hv:v<g.ports.length
 .rw [aA7 hv] at h
  obtain ⟨l,hl,e⟩:=List.mem_map.1 h;have h1:(aO8 g v).testBit u=true:=(aHi hv).2 ⟨l,hl,e⟩;obtain ⟨hu,h2⟩:=bM2 hg hv h1;obtain ⟨k,hk,e2⟩:=(aHi hu).1 h2;refine ⟨hu,hv,?_⟩
  unfold aEr;rw [aA7 hu];exact List.mem_map.2 ⟨k,hk,e2⟩
 .rw [show g.ports.getD v []=[] by simp [List.getD_eq_getElem?_getD,List.getElem?_eq_none (Nat.le_of_not_lt hv)]] at h
  cases h
theorem bGy {g:Graph} (hg:GOK g) (v:Nat):v ∉ aEr g v:=by
 intro h
 have hv:=(aEd hg h).1;unfold aEr at h;rw [aA7 hv] at h;obtain ⟨l,hl,e⟩:=List.mem_map.1 h;have h1:=aB3.1 ((aAu.1 (hg.links v hv)).1 l hl);omega
theorem bGx {g:Graph} (hg:GOK g):GraphP (aEr g) g.ports.length:=⟨fun v u h=>(aEd hg h).2.2,fun v u h=>(aEd hg h).1,bGy hg⟩
theorem aBj (b:Bool):(aB0 b != 0)=b:=by cases b <;> rfl
theorem bGg (b:Bool):(aB0 b==0) = !b:=by cases b <;> rfl
theorem aOl (b:Bool):aZk (aB0 b)=aB0 b:=by cases b <;> decide
theorem aQh (a b:Int):aBv 41 a b=aB0 (a != 0&&b != 0):=by
 show aZk (aB0 _)=_
 exact aOl _
theorem aM6 (a b:Int):aBv 35 a b=aB0 (a==b):=by
 show aZk (aB0 _)=_
 exact aOl _
theorem bPd (a b:Int):aBv 36 a b=aB0 (a != b):=by
 show aZk (aB0 _)=_
 exact aOl _
theorem bNd (a:Int):aKf 19 a=aB0 (a==0):=rfl
theorem aJq (l:List Int):aIm 21 l=aB0 (l.any (· != 0)):=by
 show aB0 (decide (0<aEc l))=_
 congr 1
 rw [Bool.eq_iff_iff,decide_eq_true_iff,List.any_eq_true];unfold aEc;constructor
 .intro h
  have:0<(l.filter fun a=>a != 0).length:=by omega
  obtain ⟨x,hx⟩:=List.exists_mem_of_length_pos this;obtain ⟨h1,h2⟩:=List.mem_filter.1 hx;exact ⟨x,h1,h2⟩
 .rintro ⟨x,h1,h2⟩
  have:=List.length_pos_of_mem ((List.mem_filter (p:=fun a:Int=>a != 0)).2 ⟨h1,h2⟩);omega
theorem bJd (ls:List Link) (f:Link->Bool):((List.range ls.length).map fun k=>f (ls.getD k default)).any id=ls.any f:=by
 rw [Bool.eq_iff_iff,List.any_eq_true,List.any_eq_true];constructor
 .rintro ⟨b,hb,h⟩
  obtain ⟨k,hk,rfl⟩:=List.mem_map.1 hb;have hk:k<ls.length:=by simpa using hk
  rw [aA7 hk] at h;exact ⟨_,List.getElem_mem hk,h⟩
 .rintro ⟨l,hl,h⟩
  obtain ⟨k,hk,rfl⟩:=List.getElem_of_mem hl;exact ⟨f ls[k],List.mem_map.2 ⟨k,by simpa using hk,by rw [aA7 hk]⟩,h⟩
def aDp (c:aA2) (v:Nat):Int:=(c.getD v []).getD 0 0
theorem aYn {p:Prg} {g:Graph} {c:aA2} (hm:aC0 p g c=0) {x:Var} (hp:p.vars=[x]) {v:Nat} (hv:v<c.length):c.getD v []=[aDp c v]/\(aB8 x g v).1<=aDp c v/\aDp c v<=(aB8 x g v).2:=by
 have h1:=aMa hm hv;obtain ⟨h2,h3⟩:=aD3.1 h1;have hl:(c.getD v []).length=1:=by rw [h2];unfold aJc;rw [hp];rfl
 have h4:=h3 0 (by omega) (by unfold aJc;rw [hp];simp)
 match hs:c.getD v [],hl with
 | [y],_ =>
  have e:aDp c v=y:=by unfold aDp;rw [hs];rfl
  rw [e];refine ⟨rfl,?_⟩
  have h5:(c.getD v [])[0]'(by omega)=y:=(List.getElem_of_eq hs (by omega)).trans rfl
  simp only [aJc,hp,h5] at h4
  simpa using h4
theorem aMy {p:Prg} {g:Graph} {c:aA2} {v:Nat} {k:Nat} {r:Rule} {e:List Term} {y:Int} (hf:aAk p.rules g c v=(k:Int)) (hr:p.rules[k]?=some r) (hs:r.sets=[⟨0,e⟩]) (hc:c.getD v []=[y]):aFe p g c v=[aJ4 p g c v ⟨0,e⟩]:=by
 unfold aFe bDe;rw [hf,Int.toNat_natCast,List.getD_eq_getElem?_getD,hr];show aD9 p g c v r.sets=_
 rw [hs];unfold aD9;rw [hc];rfl
theorem aV9 {p:Prg} {g:Graph} {c:aA2} {T v:Nat} (hv:v<c.length):aDp (aAd p g c T) v=if T.testBit v then (aFe p g c v).getD 0 0 else aDp c v:=by
 unfold aDp;rw [aFa p g c T hv];split <;> rfl
open Go.ChangeShapes Go.WideShapes Go.ChangeAt Go.WideMaps Go.WideElems Go.RowKit Go.Deep
abbrev jc0 (P:Program) (f:FuncId) (fn:Func) (s:ChangeSpec) (c:OpenClaim):Bool:=c.wf (OpenSpec.ofChange s)
abbrev jc1 (P:Program) (f:FuncId) (fn:Func) (s:ChangeSpec) (c:OpenClaim):Bool:=laidOutB P
abbrev jc2 (P:Program) (f:FuncId) (fn:Func) (s:ChangeSpec) (c:OpenClaim):Bool:=mapsRowed P
abbrev jc3 (P:Program) (f:FuncId) (fn:Func) (s:ChangeSpec) (c:OpenClaim):Bool:=fn.params.all (P.readableRec ·)
abbrev jc4 (P:Program) (f:FuncId) (fn:Func) (s:ChangeSpec) (c:OpenClaim):Bool:=namedTie P c.named s.vars
abbrev jc5 (P:Program) (f:FuncId) (fn:Func) (s:ChangeSpec) (c:OpenClaim):Bool:=(c.stops==[])
abbrev jc6 (P:Program) (f:FuncId) (fn:Func) (s:ChangeSpec) (c:OpenClaim):Bool:=(P.stops==[])
abbrev jc7 (P:Program) (f:FuncId) (fn:Func) (s:ChangeSpec) (c:OpenClaim):Bool:=(c.knobs==[])
abbrev jc8 (P:Program) (f:FuncId) (fn:Func) (s:ChangeSpec) (c:OpenClaim):Bool:=(P.stopKnobs==[])
abbrev jc9 (P:Program) (f:FuncId) (fn:Func) (s:ChangeSpec) (c:OpenClaim):Bool:=(c.inPlace==P.inPlace f)
abbrev jc10 (P:Program) (f:FuncId) (fn:Func) (s:ChangeSpec) (c:OpenClaim):Bool:=(c.unfollowed==P.unfollowed f)
abbrev jc11 (P:Program) (f:FuncId) (fn:Func) (s:ChangeSpec) (c:OpenClaim):Bool:=(c.recurses==P.recurses f)
abbrev jc12 (P:Program) (f:FuncId) (fn:Func) (s:ChangeSpec) (c:OpenClaim):Bool:=(c.named==P.varsNamed f)
abbrev jc13 (P:Program) (f:FuncId) (fn:Func) (s:ChangeSpec) (c:OpenClaim):Bool:=(c.maps==(fn.params.toList++s.plain.varTypes P).any (P.mapsRec ·))
abbrev jc14 (P:Program) (f:FuncId) (fn:Func) (s:ChangeSpec) (c:OpenClaim):Bool:=(c.ifaces==(fn.params.toList++s.plain.varTypes P).any (P.ifacesRec ·))
abbrev jc15 (P:Program) (f:FuncId) (fn:Func) (s:ChangeSpec) (c:OpenClaim):Bool:=(c.mapsOut==P.mapsAmong fn.resultTypes.toList)
abbrev jc16 (P:Program) (f:FuncId) (fn:Func) (s:ChangeSpec) (c:OpenClaim):Bool:=(c.loops==(fn.params.toList++s.plain.varTypes P).any (P.loopsFrom ·))
abbrev jc17 (P:Program) (f:FuncId) (fn:Func) (s:ChangeSpec) (c:OpenClaim):Bool:=(c.wideKeys==(fn.params.toList++s.plain.varTypes P++fn.resultTypes.toList).any (P.wideKeysFrom ·))
abbrev jc18 (P:Program) (f:FuncId) (fn:Func) (s:ChangeSpec) (c:OpenClaim):Bool:=s.vars.all (P.varReadable ·)
abbrev jc19 (P:Program) (f:FuncId) (fn:Func) (s:ChangeSpec) (c:OpenClaim):Bool:=fn.resultTypes.all (fun t=>P.readableRec t&&decide (t<P.types.size))
abbrev jc20 (P:Program) (f:FuncId) (fn:Func) (s:ChangeSpec) (c:OpenClaim):Bool:=(c.ifacesOut==fn.resultTypes.toList.any (P.ifacesRec ·))
abbrev jc21 (P:Program) (f:FuncId) (fn:Func) (s:ChangeSpec) (c:OpenClaim):Bool:=(c.loopsOut==fn.resultTypes.toList.any (P.loopsFrom ·))
abbrev jc22 (P:Program) (f:FuncId) (fn:Func) (s:ChangeSpec) (c:OpenClaim):Bool:=(c.plainKeys==P.plainKeys)
abbrev jc23 (P:Program) (f:FuncId) (fn:Func) (s:ChangeSpec) (c:OpenClaim):Bool:=c.shortTexts.isNone
abbrev jc24 (P:Program) (f:FuncId) (fn:Func) (s:ChangeSpec) (c:OpenClaim):Bool:=P.stopsHeard
abbrev jc25 (P:Program) (f:FuncId) (fn:Func) (s:ChangeSpec) (c:OpenClaim):Bool:=P.mayEnter
abbrev jc26 (P:Program) (f:FuncId) (fn:Func) (s:ChangeSpec) (c:OpenClaim):Bool:=(c.lifted==P.liftsFinal)
abbrev jc27 (P:Program) (f:FuncId) (fn:Func) (s:ChangeSpec) (c:OpenClaim):Bool:=(P.make==some c.make)
abbrev jc28 (P:Program) (f:FuncId) (fn:Func) (s:ChangeSpec) (c:OpenClaim):Bool:=(c.kinds==(if c.domain.isEmpty then [] else fn.params.toList.map fun t=>match P.underlying t with | some (.int k)=>some k | _=>none))
abbrev jc29 (P:Program) (f:FuncId) (fn:Func) (s:ChangeSpec) (c:OpenClaim):Bool:=(c.pinned==c.pinnedBy)
abbrev jc30 (P:Program) (f:FuncId) (fn:Func) (s:ChangeSpec) (c:OpenClaim):Bool:=(c.veiled==(fn.params.toList++s.plain.varTypes P++fn.resultTypes.toList).any (P.veiledRec ·))
abbrev jc31 (P:Program) (f:FuncId) (fn:Func) (s:ChangeSpec) (c:OpenClaim):Bool:=c.veiledFits P fn.params.toList (fn.params.toList++s.plain.varTypes P++fn.resultTypes.toList)
theorem aEt {a b:Bool} (h:a=true) (k:b=true):(a&&b)=true:=by rw [h,k];rfl
theorem jp1:jc1 prog 3 Tryz.f3 Rows.topPairsConvergeSpec Rows.topPairsConvergeRow=true:=by kernel_rfl
theorem jp2:jc2 prog 3 Tryz.f3 Rows.topPairsConvergeSpec Rows.topPairsConvergeRow=true:=by kernel_rfl
theorem jp6:jc6 prog 3 Tryz.f3 Rows.topPairsConvergeSpec Rows.topPairsConvergeRow=true:=by kernel_rfl
theorem jp8:jc8 prog 3 Tryz.f3 Rows.topPairsConvergeSpec Rows.topPairsConvergeRow=true:=by kernel_rfl
theorem jp22:jc22 prog 3 Tryz.f3 Rows.topPairsConvergeSpec Rows.topPairsConvergeRow=true:=by kernel_rfl
theorem jp24:jc24 prog 3 Tryz.f3 Rows.topPairsConvergeSpec Rows.topPairsConvergeRow=true:=by kernel_rfl
theorem jp25:jc25 prog 3 Tryz.f3 Rows.topPairsConvergeSpec Rows.topPairsConvergeRow=true:=by kernel_rfl
theorem jp26:jc26 prog 3 Tryz.f3 Rows.topPairsConvergeSpec Rows.topPairsConvergeRow=true:=by kernel_rfl
theorem jp27:jc27 prog 3 Tryz.f3 Rows.topPairsConvergeSpec Rows.topPairsConvergeRow=true:=by kernel_rfl
theorem bPk:prog.mainIs=some (Rows.topPairsConvergeCard.stood.harness.1,Rows.topPairsConvergeCard.stood.harness.2.toList):=by kernel_rfl
theorem bPj:true=prog.looks []:=by kernel_rfl
end Go.Proofs.YtmoebklkkjbigaaGreatDoor

