/- Merged. -/
import Derived.Test.YtmifhmdghfbalaaGreatDoorZ30
import Derived.Test.YtmifhmdghfbalaaGreatDoorZ25
import Derived.Test.YtmifhmdghfbalaaGreatDoorZ24
import Derived.BigQuiet
set_option linter.unusedSimpArgs false
set_option linter.unnecessarySimpa false
set_option linter.unusedVariables false
set_option maxRecDepth 100000
set_option maxHeartbeats 4000000
open Go.Proofs.Tryz

namespace Go.Proofs.YtmifhmdghfbalaaGreatDoor
open Go.RowKit
theorem bMm {M a:Int} {t:List (Int × Int)} {x:Nat} (hx:x<t.length):szL M a (t.drop x)=szL M (min (a*(t[x].2-t[x].1+1)) M) (t.drop (x+1)):=by
 rw [List.drop_eq_getElem_cons hx];rfl
theorem bKp {M r:Int} {T:List (List (Int × Int))} {v:Nat} (hv:v<T.length):bIm M r (T.drop v)=if 32768<szL M 1 T[v]∨32768<r*szL M 1 T[v] then none else bIm M (r*szL M 1 T[v]) (T.drop (v+1)):=by
 rw [List.drop_eq_getElem_cons hv];rfl
theorem bHb {M:Int} (hM:1<=M) {t:List (Int × Int)} (ho:okL t):1<=szL M 1 t/\szL M 1 t<=M:=by
 rw [bHc hM ho (by omega) (by omega)]
 have:=aCs ho;omega
theorem bBl {T:List (List (Int × Int))} (ho:okN T) (h:bIm 1073741824 1 T=none):bCx (aAq T)=(0,3):=by
 rw [aZx (by omega) ho (by omega) (by omega),Int.one_mul] at h
 unfold bK6 at h;unfold bCx;split at h
 .rename_i h1;rw [if_pos h1]
 .cases h
theorem bIn {T:List (List (Int × Int))} {r:Int} (ho:okN T) (h:bIm 1073741824 1 T=some r):bCx (aAq T)=(r,0):=by
 rw [aZx (by omega) ho (by omega) (by omega),Int.one_mul] at h
 unfold bK6 at h;unfold bCx;split at h
 .cases h
 .rename_i h1;rw [if_neg h1];injection h with h;rw [h]
theorem aD2 (kind:Int) (w:World) :
  Calls prog 72 #[.int .i64 kind] w fun e w'=>e = .returned (.bool (aGw kind))/\w=w':=by
 have HF:Hid (aGw kind=(decide (1<=kind)&&decide (kind<=4))):=rfl
 by_cases h0:1<=kind
 .have d0:decide (1<=kind)=true:=by simpa using h0
  rw [d0] at HF
  by_cases h1:kind<=4
  .have d1:decide (kind<=4)=true:=by simpa using h1
   rw [d1] at HF;go_enter func72,ntmps72
   go_wp2_with fail
   go_ret;exact ⟨aA2 (by rw [HF.out];rfl),rfl⟩
  .have d1:decide (kind<=4)=false:=by simpa using h1
   rw [d1] at HF;go_enter func72,ntmps72
   go_wp2_with fail
   go_ret;exact ⟨aA2 (by rw [HF.out];rfl),rfl⟩
 .have d0:decide (1<=kind)=false:=by simpa using h0
  rw [d0] at HF;go_enter func72,ntmps72
  go_wp2_with fail
  go_ret;exact ⟨aA2 (by rw [HF.out];rfl),rfl⟩
theorem aYp (v1:Value) (p:Prg) (v2:Value) (g:Graph) (v:Nat) (w:World) (h:aE0 w v1 p) (h2:aAl w v2 g) (hL:aAt p=true) (hG:aB3 g=true) (hf:aCf p g=0) (hv:v<g.ports.length) (hp:1<=p.vars.length) :
  Calls prog 185 #[v1,v2,.int .i64 (v:Int),.int .i64 0] w fun e w'=>e = .returned (.bool true)/\Bel w w':=by
 have HPV:=aA1 (fun w' (k:Bel w w')=>h.keep k);have HGV:=aA1 (fun w' (k:Bel w w')=>h2.keep k);obtain ⟨A1,k1,A2,k2,rfl,_,_,_,_,_,_⟩:=h;obtain ⟨A3,k3,A4,k4,rfl,_,_,_,_,_,_⟩:=h2;have HW:=Bel.refl ((w.alloc (.cells #[.string p.name,.slice A1 p.vars.length k1,.slice A2 p.rules.length k2] 25)).alloc (.cells #[.slice A3 g.ids.length k3,.slice A4 g.ports.length k4] 29));have HL:=aA1 hL;have HGL:=aA1 hG;have HF:=aA1 hf;have HI1:Hid (inB (v:Int) 0 ((g.ports.length:Int)-1)=true):=aIn.2 (by omega)
 have HI2:Hid (inB 0 0 ((p.vars.length:Int)-1)=true):=aIn.2 (by omega)
 have hn:=(aAe hf).2.1.le;have hv10:=(aAi hL).2.1;clear hL hG hf;go_enter func185,ntmps185
 go_wp2_with (first
  | (go_at_call 136;refine (aF9 _ p _ g _ (HPV.out _ (aA0 HW)) (HGV.out _ (aA0 HW)) HL.out HGL.out).mono ?_;rintro e w' ⟨rfl,hb⟩;rw [HF.out];replace HW:=HW.trans hb;clear hb;(try clear p0 p1 p2 g0 g1 gsz);obtain ⟨p0,p1,p2,g0,g1,gsz⟩:=aA6 HW)
  | (go_at_call 110;refine (aBs _ _ _ _).mono ?_;rintro e w' ⟨rfl,rfl⟩;first | rw [HI1.out] | rw [HI2.out]))
 go_ret;exact ⟨rfl,aA0 HW⟩
theorem aMt (v1:Value) (p:Prg) (v2:Value) (g:Graph) (v:Nat) (w:World) (h:aE0 w v1 p) (h2:aAl w v2 g) (hL:aAt p=true) (hG:aB3 g=true) (hf:aCf p g=0) (hv:v<g.ports.length) (hp:1<=p.vars.length) :
  Calls prog 137 #[v1,v2,.int .i64 (v:Int)] w fun e w'=>e = .returned (.int .i64 (szL 1073741824 1 (aEp p g v)))/\Bel w w':=by
 have HPV:=aA1 (fun w' (k:Bel w w')=>h.keep k);have HGV:=aA1 (fun w' (k:Bel w w')=>h2.keep k);obtain ⟨A1,k1,A2,k2,rfl,_,_,_,_,_,_⟩:=h;obtain ⟨A3,k3,A4,k4,rfl,_,_,_,_,_,_⟩:=h2;have HW:=Bel.refl ((w.alloc (.cells #[.string p.name,.slice A1 p.vars.length k1,.slice A2 p.rules.length k2] 25)).alloc (.cells #[.slice A3 g.ids.length k3,.slice A4 g.ports.length k4] 29));have HL:=aA1 hL;have HGL:=aA1 hG;have HFT:=aA1 hf;obtain ⟨h1,h3,_⟩:=aAe hf;have HCN:=aA1 (aB6 h1).1;have HGO:=aA1 h3;have HP1:=aA1 hp;have hvt:v<(aAa p g).length:=by rw [aAj,h3.ids];exact hv
 have HSM:Hid (∀ x (hx:x<p.vars.length),-4096<=(aAg p.vars[x] g v).1/\(aAg p.vars[x] g v).1<=4096/\(aAg p.vars[x] g v).1<=(aAg p.vars[x] g v).2/\(aAg p.vars[x] g v).2<=80000):=fun x hx=>by
  have:=(aEd hf).at_ hvt (j:=x) (by rw [aOv hvt];exact hx)
  have e:(aAa p g)[v]=aEp p g v:=aDe hvt;simp only [e,aEp,List.getElem_map] at this
  exact this
 have hv10:=(aAi hL).2.1;clear hL hG hf h1 h3;go_enter func137,ntmps137
 go_wp2_with (go_at_call 185;refine (aYp _ p _ g v _ (HPV.out _ (aA0 HW)) (HGV.out _ (aA0 HW)) HL.out HGL.out HFT.out hv HP1.out).mono ?_;rintro e w' ⟨rfl,hb⟩;replace HW:=HW.trans hb;clear hb;(try clear p0 p1 p2 g0 g1 gsz);obtain ⟨p0,p1,p2,g0,g1,gsz⟩:=aA6 HW)
 clear p0 p1 p2 g0 g1 gsz
 go_loopg [7,8,9,10] p.vars.length (fun m o z _a _b wr=>∃ (x:Nat) (a:Int),x<=p.vars.length/\m=p.vars.length-x/\o = .int .i64 a/\z = .int .i64 (x:Int)/\1<=a/\a<=1073741824/\Hid (szL 1073741824 a ((aEp p g v).drop x)=szL 1073741824 1 (aEp p g v))/\Bel ((w.alloc (.cells #[.string p.name,.slice A1 p.vars.length k1,.slice A2 p.rules.length k2] 25)).alloc (.cells #[.slice A3 g.ids.length k3,.slice A4 g.ports.length k4] 29)) wr)
 case atStart=>exact ⟨0,1,by omega,rfl,rfl,rfl,by omega,by omega,by show _=_;simp,HW⟩
 case round =>
  clear HW;obtain ⟨x,a,hx,rfl,rfl,rfl,ha1,ha2,HQ,HW⟩:=hrel;obtain ⟨p0,p1,p2,g0,g1,gsz⟩:=aA6 HW
  by_cases hlt:x<p.vars.length
  .have hd0:decide (x<p.vars.length)=true:=by simpa using hlt
   have HNX:=aA1 (List.all_eq_true.1 HCN.out _ (List.getElem_mem hlt));have hsm:=HSM.out x hlt;have hrl:x<(aEp p g v).length:=by rw [aBu];exact hlt
   rw [bMm hrl] at HQ;have HRX:Hid ((aEp p g v)[x]=aAg p.vars[x] g v):=by show _=_;simp [aEp]
   rw [HRX.out] at HQ;obtain ⟨lo,hlo⟩:∃ lo,(aAg p.vars[x] g v).1=lo:=⟨_,rfl⟩;obtain ⟨hi,hhi⟩:∃ hi,(aAg p.vars[x] g v).2=hi:=⟨_,rfl⟩;rw [hlo,hhi] at hsm HQ;have HLO:=aA1 hlo;have HHI:=aA1 hhi;clear hlo hhi;have hmr:=aE3 (a:=a) (b:=hi-lo+1) (A:=1073741824) (B:=90000) (by omega) ha2 (by omega) (by omega)
   have hmg:=aK7 (r:=a) (s:=hi-lo+1) ha1 (by omega)
   obtain ⟨m,hm,hm'⟩:=aKo (a*(hi-lo+1)) 1073741824;rw [<- hm'] at HQ;have hmb:1<=m/\m<=1073741824:=by omega
   clear hm'
   go_wp2_with (go_at_call 139;refine (aH4 _ p _ g v x _ (HPV.out _ (aA0 HW)) (HGV.out _ (aA0 HW)) hlt HNX.out HGO.out hv HGL.out).mono ?_;rintro e w' ⟨rfl,hb⟩;rw [HLO.out,HHI.out];replace HW:=HW.trans hb;clear hb;(try clear p0 p1 p2 g0 g1 gsz);obtain ⟨p0,p1,p2,g0,g1,gsz⟩:=aA6 HW)
   go_roundg (p.vars.length-(x+1))
   case rel=>exact ⟨x+1,m,by omega,rfl,by go_num,by go_num,hmb.1,hmb.2,HQ,HW⟩
   case measure=>omega
  .have hd0:decide (x<p.vars.length)=false:=by simpa using hlt
   obtain rfl:x=p.vars.length:=by omega
   go_wp2_with fail
   go_ret;refine ⟨aA4 ?_,aA0 HW⟩
   rw [<- HQ.out,List.drop_eq_nil_of_le (by rw [aBu];exact Nat.le_refl _)];rfl
theorem aCj (v1:Value) (p:Prg) (v2:Value) (g:Graph) (w:World) (h:aE0 w v1 p) (h2:aAl w v2 g) (hL:aAt p=true) (hG:aB3 g=true) :
  Calls prog 87 #[v1,v2] w fun e w'=>e = .returned (.tuple #[.int .i64 (aAs p g).1,.int .i64 (aAs p g).2])/\Bel w w':=by
 have HPV:=aA1 (fun w' (k:Bel w w')=>h.keep k);have HGV:=aA1 (fun w' (k:Bel w w')=>h2.keep k);obtain ⟨A1,k1,A2,k2,rfl,_,_,_,_,_,_⟩:=h;obtain ⟨A3,k3,A4,k4,rfl,_,_,_,_,_,_⟩:=h2;have HW:=Bel.refl ((w.alloc (.cells #[.string p.name,.slice A1 p.vars.length k1,.slice A2 p.rules.length k2] 25)).alloc (.cells #[.slice A3 g.ids.length k3,.slice A4 g.ports.length k4] 29));have HL:=aA1 hL;have HGL:=aA1 hG;clear hL hG
 by_cases hf:aCf p g=0
 .have HF:=aA1 hf
  have HE:Hid (aAs p g=bCx (aAq (aAa p g))):=aSl hf;obtain ⟨h1,h3,_⟩:=aAe hf;have hv1:=aHl h1;have HOK:Hid (okN (aAa p g)):=aIe hf;have HTL:Hid ((aAa p g).length=g.ports.length):=by show _=_;rw [aAj,h3.ids]
  have hn24:=h3.le;clear hf h1 h3;go_enter func87,ntmps87
  go_wp2_with (go_at_call 136;refine (aF9 _ p _ g _ (HPV.out _ (aA0 HW)) (HGV.out _ (aA0 HW)) HL.out HGL.out).mono ?_;rintro e w' ⟨rfl,hb⟩;rw [HF.out];replace HW:=HW.trans hb;clear hb;(try clear p0 p1 p2 g0 g1 gsz);obtain ⟨p0,p1,p2,g0,g1,gsz⟩:=aA6 HW)
  clear p0 p1 p2 g0 g1 gsz
  go_loopg [7,8,9] g.ports.length (fun m o z _a wr=>∃ (v:Nat) (r:Int),v<=g.ports.length/\m=g.ports.length-v/\o = .int .i64 r/\z = .int .i64 (v:Int)/\1<=r/\r<=32768/\Hid (bIm 1073741824 r ((aAa p g).drop v)=bIm 1073741824 1 (aAa p g))/\Bel ((w.alloc (.cells #[.string p.name,.slice A1 p.vars.length k1,.slice A2 p.rules.length k2] 25)).alloc (.cells #[.slice A3 g.ids.length k3,.slice A4 g.ports.length k4] 29)) wr)
  case atStart=>exact ⟨0,1,by omega,rfl,rfl,rfl,by omega,by omega,by show _=_;simp,HW⟩
  case round =>
   clear HW;obtain ⟨v,r,hv,rfl,rfl,rfl,hr1,hr2,HQ,HW⟩:=hrel;obtain ⟨p0,p1,p2,g0,g1,gsz⟩:=aA6 HW
   by_cases hlt:v<g.ports.length
   .have hd0:decide (v<g.ports.length)=true:=by simpa using hlt
    have hvt:v<(aAa p g).length:=by rw [HTL.out];exact hlt
    have HRW:Hid ((aAa p g)[v]=aEp p g v):=aDe hvt;have hsb:=bHb (M:=1073741824) (by omega) (HOK.out _ (List.getElem_mem hvt))
    rw [bKp hvt] at HQ;rw [HRW.out] at HQ hsb;obtain ⟨s,hs⟩:∃ s,s=szL 1073741824 1 (aEp p g v):=⟨_,rfl⟩;rw [<- hs] at HQ hsb;have HS:=aA1 hs;have hmr:=aE3 (a:=r) (b:=s) (A:=32768) (B:=1073741824) (by omega) hr2 (by omega) hsb.2
    have hmg:=aK7 (r:=r) (s:=s) hr1 hsb.1;clear hs
    by_cases hb1:32768<s
    .have d1:decide (32768<s)=true:=by simpa using hb1
     rw [if_pos (.inl hb1)] at HQ;have HC:=aA1 (bBl HOK.out HQ.out.symm);clear hb1
     go_wp2_with (go_at_call 137;refine (aMt _ p _ g v _ (HPV.out _ (aA0 HW)) (HGV.out _ (aA0 HW)) HL.out HGL.out HF.out hlt hv1).mono ?_;rintro e w' ⟨rfl,hb⟩;rw [<- HS.out];replace HW:=HW.trans hb;clear hb;(try clear p0 p1 p2 g0 g1 gsz);obtain ⟨p0,p1,p2,g0,g1,gsz⟩:=aA6 HW)
     go_ret2
     exact ⟨by rw [HE.out,HC.out];rfl,aA0 HW⟩
    .have d1:decide (32768<s)=false:=by simpa using hb1
     by_cases hb2:32768<r*s
     .have d2:decide (32768<r*s)=true:=by simpa using hb2
      rw [if_pos (.inr hb2)] at HQ;have HC:=aA1 (bBl HOK.out HQ.out.symm);clear hb1 hb2
      go_wp2_with (go_at_call 137;refine (aMt _ p _ g v _ (HPV.out _ (aA0 HW)) (HGV.out _ (aA0 HW)) HL.out HGL.out HF.out hlt hv1).mono ?_;rintro e w' ⟨rfl,hb⟩;rw [<- HS.out];replace HW:=HW.trans hb;clear hb;(try clear p0 p1 p2 g0 g1 gsz);obtain ⟨p0,p1,p2,g0,g1,gsz⟩:=aA6 HW)
      go_ret2
      exact ⟨by rw [HE.out,HC.out];rfl,aA0 HW⟩
     .have d2:decide (32768<r*s)=false:=by simpa using hb2
      rw [if_neg (by omega)] at HQ
      have hrs:1<=r*s/\r*s<=32768:=by omega
      clear hb1 hb2
      go_wp2_with (go_at_call 137;refine (aMt _ p _ g v _ (HPV.out _ (aA0 HW)) (HGV.out _ (aA0 HW)) HL.out HGL.out HF.out hlt hv1).mono ?_;rintro e w' ⟨rfl,hb⟩;rw [<- HS.out];replace HW:=HW.trans hb;clear hb;(try clear p0 p1 p2 g0 g1 gsz);obtain ⟨p0,p1,p2,g0,g1,gsz⟩:=aA6 HW)
      go_roundg (g.ports.length-(v+1))
      case rel=>exact ⟨v+1,r*s,by omega,rfl,rfl,by go_num,hrs.1,hrs.2,HQ,HW⟩
      case measure=>omega
   .have hd0:decide (v<g.ports.length)=false:=by simpa using hlt
    obtain rfl:v=g.ports.length:=by omega
    have HC:Hid (bCx (aAq (aAa p g))=(r,0)):=bIn HOK.out (by rw [<- HQ.out,<- HTL.out,List.drop_length];rfl)
    go_wp2_with fail
    go_ret2
    exact ⟨by rw [HE.out,HC.out];rfl,aA0 HW⟩
 .have hfb:(aCf p g != 0)=true:=by simpa using hf
  have HE:Hid (aAs p g=(0,aCf p g)):=by show _=_;unfold aAs;rw [if_pos (by simpa using hf)]
  clear hf;go_enter func87,ntmps87
  go_wp2_with (go_at_call 136;refine (aF9 _ p _ g _ (HPV.out _ (aA0 HW)) (HGV.out _ (aA0 HW)) HL.out HGL.out).mono ?_;rintro e w' ⟨rfl,hb⟩;replace HW:=HW.trans hb;clear hb;(try clear p0 p1 p2 g0 g1 gsz);obtain ⟨p0,p1,p2,g0,g1,gsz⟩:=aA6 HW)
  go_ret2
  exact ⟨by rw [HE.out];rfl,aA0 HW⟩
theorem bE6:(prog.info? 26).map (fun i=>(i.zero,i.size,i.bytes))=some (some (.slice none 0 0),1,24):=by kernel_rfl
theorem bG0:(prog.info? 3).map (fun i=>(i.zero,i.size,i.bytes))=some (some (.int .i64 0),1,8):=by kernel_rfl
theorem aTn (p:Prg) (g:Graph) (v:Nat):aBt (aEp p g v)=p.vars.map fun x=>(aAg x g v).1:=by simp [aBt,aEp,Function.comp_def]
theorem bA9 {p:Prg} {g:Graph} {v x:Nat} (hx:x<p.vars.length):(aBt (aEp p g v)).take (x+1)=(aBt (aEp p g v)).take x++[(aAg p.vars[x] g v).1]:=by
 rw [aTn,List.take_succ_eq_append_getElem (by simpa using hx)];simp
theorem bAa {p:Prg} {g:Graph} {v:Nat} (hv:v<(aAa p g).length):(aC3 (aAa p g)).take (v+1)=(aC3 (aAa p g)).take v++[aBt (aEp p g v)]:=by
 rw [List.take_succ_eq_append_getElem (by rw [aCg];exact hv)]
 congr 2
 simp only [aC3,List.getElem_map]
 rw [show (aAa p g)[v]=aEp p g v from aDe hv]
theorem aT7 (v1:Value) (p:Prg) (v2:Value) (g:Graph) (w:World) (h:aE0 w v1 p) (h2:aAl w v2 g) (hL:aAt p=true) (hG:aB3 g=true) (hf:aCf p g=0) :
  Calls prog 138 #[v1,v2] w (bB9 p g w):=by
 have HPV:=aA1 (fun w' (k:Bel w w')=>h.keep k);have HGV:=aA1 (fun w' (k:Bel w w')=>h2.keep k);obtain ⟨A1,k1,A2,k2,rfl,_,_,_,_,_,_⟩:=h;obtain ⟨A3,k3,A4,k4,rfl,_,_,_,_,_,_⟩:=h2;obtain ⟨i0,hi0,hz0,hz1,hz2⟩:=info_parts bE6;obtain ⟨j0,hj0,hy0,hy1,hy2⟩:=info_parts bG0;have HW:=Bel.refl ((w.alloc (.cells #[.string p.name,.slice A1 p.vars.length k1,.slice A2 p.rules.length k2] 25)).alloc (.cells #[.slice A3 g.ids.length k3,.slice A4 g.ports.length k4] 29));have HL:=aA1 hL;have HGL:=aA1 hG;have HFT:=aA1 hf;obtain ⟨h1,h3,_⟩:=aAe hf;have HCN:=aA1 (aB6 h1).1;have HGO:=aA1 h3;have hp1:=aHl h1;have hle:=h3.le;have hpos:=h3.pos;have hv10:=(aAi hL).2.1;have HTL:Hid ((aAa p g).length=g.ports.length):=by show _=_;rw [aAj,h3.ids]
 clear hL hG hf h1 h3;go_enter func138,ntmps138
 go_wp2_with (go_at_call 136;refine (aF9 _ p _ g _ (HPV.out _ (aA0 HW)) (HGV.out _ (aA0 HW)) HL.out HGL.out).mono ?_;rintro e w' ⟨rfl,hb⟩;rw [HFT.out];replace HW:=HW.trans hb;clear hb;(try clear p0 p1 p2 g0 g1 gsz);obtain ⟨p0,p1,p2,g0,g1,gsz⟩:=aA6 HW)
 clear p0 p1 p2 g0 g1 gsz
 go_loopg [7,8] g.ports.length (fun m r z wr=>∃ (v:Nat) (B:Option Addr) (cb:Nat) (bs:List (Nat × Nat)),v<=g.ports.length/\m=g.ports.length-v/\r = .slice B v cb/\z = .int .i64 (v:Int)/\Hid (RowsC wr (w.heap.size+1+1) B cb p.vars.length ((aC3 (aAa p g)).take v) bs)/\Bel ((w.alloc (.cells #[.string p.name,.slice A1 p.vars.length k1,.slice A2 p.rules.length k2] 25)).alloc (.cells #[.slice A3 g.ids.length k3,.slice A4 g.ports.length k4] 29)) wr)
 case atStart=>exact ⟨0,none,0,[],by omega,rfl,rfl,rfl,RowsC.nil _ _ _,HW⟩
 case round =>
  clear HW;obtain ⟨v,B,cb,bs,hv,rfl,rfl,rfl,HO,HW⟩:=hrel;obtain ⟨wo,rfl⟩:∃ wo,wo=wr:=⟨_,rfl⟩;obtain ⟨p0,p1,p2,g0,g1,gsz⟩:=aA6 HW
  by_cases hlt:v<g.ports.length
  .have hd0:decide (v<g.ports.length)=true:=by simpa using hlt
   have HNX:=aA1 (bAa (p:=p) (g:=g) (v:=v) (by rw [HTL.out];exact hlt))
   have HT:Hid (((aC3 (aAa p g)).take v).length=v):=by show _=_;rw [List.length_take,aCg,HTL.out];omega
   go_wp2_with fail
   have HW1:=HW;have hszo:=HW.size;have HBO:=Bel.refl wo;clear p0 p1 p2 g0 g1 gsz HW
   go_loopg [9,10] p.vars.length (fun m s z ws=>∃ (x:Nat) (S:Option Addr) (sc:Nat),x<=p.vars.length/\m=p.vars.length-x/\s = .slice S x sc/\z = .int .i64 (x:Int)/\Hid (ws.ownsRow wo.heap.size 3 1 (.slice S x sc) x (((aBt (aEp p g v)).take x).map (Value.int .i64)))/\Bel wo ws)
   case atStart=>exact ⟨0,none,0,by omega,rfl,rfl,rfl,World.ownsRow_nil _ _ _ _,HBO⟩
   case round =>
    clear HBO;obtain ⟨x,S,sc,hx,rfl,rfl,rfl,HS,HB⟩:=hrel;have HW:=HW1.trans HB;obtain ⟨p0,p1,p2,g0,g1,gsz⟩:=aA6 HW
    by_cases hlx:x<p.vars.length
    .have hd1:decide (x<p.vars.length)=true:=by simpa using hlx
     have HNUM:=aA1 (List.all_eq_true.1 HCN.out _ (List.getElem_mem hlx));have HLN:=aA1 (bA9 (p:=p) (g:=g) (v:=v) hlx);obtain ⟨lo,hlo⟩:∃ lo,(aAg p.vars[x] g v).1=lo:=⟨_,rfl⟩;rw [hlo] at HLN;have HLO:=aA1 hlo;clear hlo
     go_wp2_with (first
      | (go_at_call 139;refine (aH4 _ p _ g v x _ (HPV.out _ (aA0 HW)) (HGV.out _ (aA0 HW)) hlx HNUM.out HGO.out hlt HGL.out).mono ?_;rintro e w' ⟨rfl,hb⟩;rw [HLO.out];have HS':=aA1 (hb.owns HS.out);have HB':=HB.trans hb;replace HW:=HW.trans hb;clear hb;(try clear p0 p1 p2 g0 g1 gsz);obtain ⟨p0,p1,p2,g0,g1,gsz⟩:=aA6 HW)
      | (at_builtin;refine aC5 _ rfl (.tmp 41) (.tmp 43) 26 rfl wo.heap.size 3 j0 (.int .i64 0) 1 8 underlying26 hj0 hy0 hy1 hy2 rfl (by decide) S x sc (((aBt (aEp p g v)).take x).map (Value.int .i64)) rfl (HS'.out.alloc _) w'.heap.size #[.int .i64 lo] 3 (0,0) rfl (aBr _ _) rfl (aMm _ _) (by unfold maxLen;omega) (by omega) (by have:=HB'.size;simp;omega) ?_;intro S4 c4 w4 hown hgr hat;have HO4:=aA1 hown;have HB4:=(HB'.alloc (.cells #[.int .i64 lo] 3)).grown hgr (fun k hk=>aK8 HS'.out k hk);clear hown hgr hat))
     go_roundg (p.vars.length-(x+1))
     case rel =>
      refine ⟨x+1,S4,c4,by omega,rfl,rfl,by go_num,?_,HB4⟩
      have:=HO4.out;show World.ownsRow _ _ _ _ _ _ _
      rw [HLN.out,List.map_append];exact this
     case measure=>omega
    .have hd1:decide (x<p.vars.length)=false:=by simpa using hlx
     obtain rfl:x=p.vars.length:=by omega
     have HLL:Hid ((aBt (aEp p g v)).take p.vars.length=aBt (aEp p g v)):=by
      show _=_
      rw [List.take_of_length_le];rw [aTn];simp
     rw [HLL.out] at HS
     obtain ⟨g3,rfl⟩:∃ g3,S=some ⟨g3,0,none⟩:=by
      obtain ⟨gm,cap,hv',_⟩:=HS.out.form (by omega)
      injection hv' with hA
      exact ⟨gm,hA⟩
     have HO3:=aA1 (HO.out.keep HB);have HOV:=aA1 (bGp HO3.out.own HT.out)
     go_wp2_with (at_builtin;refine aC5 _ rfl (.tmp 45) (.tmp 47) 30 rfl (w.heap.size+1+1) 26 i0 (.slice none 0 0) 1 24 underlying30 hi0 hz0 hz1 hz2 rfl (by decide) B v cb (aEb p.vars.length bs) rfl (HOV.out.alloc _) wr.heap.size #[.slice (some ⟨g3,0,none⟩) p.vars.length sc] 26 (0,0) rfl (aBr _ _) rfl (aJ1 _ _ _) (by unfold maxLen;omega) (by omega) (by have:=HW.size;simp at this ⊢;omega) ?_;intro B4 c4 w4 hown4 hgr4 hat4;have HP:Hid (RowsC w4 (w.heap.size+1+1) B4 c4 p.vars.length ((aC3 (aAa p g)).take v++[aBt (aEp p g v)]) (bs++[(g3,sc)])):=(by show RowsC _ _ _ _ _ _ _;exact HO.out.push (by simp at hszo;omega) HT.out HS.out HB hown4 hgr4);replace HW:=(HW.alloc _).grown hgr4 (fun k hk=>by have:=aK8 HOV.out k hk;simp;omega);clear hown4 hgr4 hat4)
     go_roundg (g.ports.length-(v+1))
     case rel =>
      refine ⟨v+1,B4,c4,bs++[(g3,sc)],by omega,rfl,rfl,by go_num,?_,HW⟩
      show RowsC _ _ _ _ _ _ _
      rw [HNX.out];exact HP.out
     case measure=>omega
  .have hd0:decide (v<g.ports.length)=false:=by simpa using hlt
   obtain rfl:v=g.ports.length:=by omega
   go_wp2_with fail
   go_ret2
   have hO:=HO.out;rw [List.take_of_length_le (by rw [aCg,HTL.out];exact Nat.le_refl _)] at hO
   have hln:(aC3 (aAa p g)).length=g.ports.length:=by rw [aCg,HTL.out]
   obtain ⟨gb,rfl⟩:=hO.form (by rw [hln];omega)
   exact ⟨gb,cb,bs,rfl,hO.lower (by omega),aA0 HW⟩
theorem aYm (v2:Value) (g:Graph) (S:Nat) (w:World) (h2:aAl w v2 g) (hg:GOK g) (hG:aB3 g=true) (hS:S<4294967296) :
  Calls prog 126 #[v2,.int .u32 (S:Int)] w fun e w'=>e = .returned (.int .u32 (bBw g S:Nat))/\Bel w w':=by
 have HGV:=aA1 (fun w' (k:Bel w w')=>h2.keep k)
 have hP:∃ A k A2 k2,v2 = .agg #[.slice A g.ids.length k,.slice A2 g.ports.length k2]/\aH0 w A2 g.ports.length g.ports:=by
  obtain ⟨A,k,A2,k2,e,_,_,_,hP,_⟩:=h2;exact ⟨A,k,A2,k2,e,hP⟩
 obtain ⟨A3,k3,A4,k4,rfl,hP⟩:=hP;have HP:=aA1 (fun w' (k:Bel w w')=>aH0.keep hP k);have HGL:=aA1 hG;have hle:=hg.le;have HLT:=aA1 (fun v (hv:v<g.ports.length)=>aD7 hv (hg.links v hv));have HGT:Hid (aFz g=true):=(aG7 g).2 hg;have HS:=aA1 hS;have HNF:Hid (bBw g S=aPp g.ports.length fun v=>(g.ports.getD v []).any fun l=>aR0 S l.to):=rfl;have HW:=Bel.refl (w.alloc (.cells #[.slice A3 g.ids.length k3,.slice A4 g.ports.length k4] 29));clear h2 hP hG hg hS;go_enter func126,ntmps126
 go_wp2_with (go_at_call 124;refine (aBw _ g _ (HGV.out _ (aA3 HW)) HGL.out).mono ?_;rintro e w' ⟨rfl,hb⟩;rw [HGT.out];replace HW:=HW.trans hb;clear hb)
 go_loopg [5,6,7] g.ports.length (fun m s x _y wr=>∃ v:Nat,v<=g.ports.length/\m=g.ports.length-v/\s = .int .u32 (aPp v fun v=>(g.ports.getD v []).any fun l=>aR0 S l.to:Nat)/\x = .int .i64 v/\Bel (w.alloc (.cells #[.slice A3 g.ids.length k3,.slice A4 g.ports.length k4] 29)) wr)
 case atStart=>exact ⟨0,by omega,rfl,rfl,rfl,HW⟩
 case round =>
  clear HW;obtain ⟨wo,rfl⟩:∃ wo:World,wo=wr:=⟨_,rfl⟩;obtain ⟨v,hv,rfl,rfl,rfl,HW⟩:=hrel;have q1:=aA9 HW 1 (v := .slice A4 g.ports.length k4) rfl;have q2:=aAz HW
  by_cases hlt:v<g.ports.length
  .have hd0:decide (v<g.ports.length)=true:=by simpa using hlt
   obtain ⟨b,o,R,rc,rfl,hb,hrow,hL,_,_⟩:=(HP.out _ (aA3 HW)).at_ v hlt;have HL:=aA1 hL;have hll:=HLT.out v hlt;obtain ⟨s0,hs0⟩:∃ s0,s0=aPp v fun v=>(g.ports.getD v []).any fun l=>aR0 S l.to:=⟨_,rfl⟩;have hs0l:s0<4294967296:=by rw [hs0];exact aJ4 _ (by omega)
   rw [<- hs0];have HS0:=aA1 hs0;clear hL hs0
   go_wp2_with fail
   go_loopg [5,7] g.ports[v].length (fun m s x ws=>∃ i:Nat,i<=g.ports[v].length/\m=g.ports[v].length-i/\s = .int .u32 (bLg s0 v ((g.ports[v].take i).any fun l=>aR0 S l.to):Nat)/\x = .int .i64 i/\wo=ws)
   case atStart=>exact ⟨0,by omega,rfl,rfl,rfl,rfl⟩
   case round =>
    obtain ⟨i,hi,rfl,rfl,rfl,rfl⟩:=hrel;have hal:=bKi hs0l (show v<32 by omega) ((g.ports[v].take i).any fun l=>aR0 S l.to)
    by_cases hlt2:i<g.ports[v].length
    .have hd2:decide (i<g.ports[v].length)=true:=by simpa using hlt2
     obtain ⟨b1,o1,rfl,hb1,c0,c1⟩:=HL.out.at_ i hlt2
     have HTS:Hid (((g.ports[v].take (i+1)).any fun l=>aR0 S l.to)=(((g.ports[v].take i).any fun l=>aR0 S l.to)||aR0 S g.ports[v][i].to)):=by
      show _=_
      rw [List.take_succ_eq_append_getElem hlt2,List.any_append];simp
     cases hh:aR0 S g.ports[v][i].to with
     | true =>
      rw [hh] at HTS
      go_wp2_with (go_at_call 79;refine (aIm S _ _ HS.out).mono ?_;rintro e w2 ⟨rfl,rfl⟩;rw [hh])
      go_roundg (g.ports[v].length-(i+1))
      case rel =>
       refine ⟨i+1,by omega,rfl,?_,by go_num,rfl⟩
       rw [HTS.out,aN6 hal (by omega)]
       cases (g.ports[v].take i).any fun l=>aR0 S l.to with
       | true=>rw [bCj];rfl
       | false=>rfl
      case measure=>omega
     | false =>
      rw [hh] at HTS
      go_wp2_with (go_at_call 79;refine (aIm S _ _ HS.out).mono ?_;rintro e w2 ⟨rfl,rfl⟩;rw [hh])
      go_roundg (g.ports[v].length-(i+1))
      case rel=>exact ⟨i+1,by omega,rfl,by rw [HTS.out,Bool.or_false],by go_num,rfl⟩
      case measure=>omega
    .have hd2:decide (i<g.ports[v].length)=false:=by simpa using hlt2
     obtain rfl:i=g.ports[v].length:=by omega
     go_wp2_with fail
     go_roundg (g.ports.length-(v+1))
     case rel =>
      refine ⟨v+1,by omega,rfl,?_,by go_num,HW⟩
      rw [List.take_of_length_le (Nat.le_refl _),aHw,aA7 hlt,HS0.out];rfl
     case measure=>omega
  .have hd0:decide (v<g.ports.length)=false:=by simpa using hlt
   obtain rfl:v=g.ports.length:=by omega
   go_wp2_with fail
   go_ret;exact ⟨aA4 (by rw [HNF.out]),aA3 HW⟩
theorem aFh (n:Nat) (w:World) (hn:n<=30) :
  Calls prog 125 #[.int .i64 (n:Int)] w fun e w'=>e = .returned (.int .u32 (aPp n (fun _=>true):Nat))/\w=w':=by
 go_enter func125,ntmps125
 go_wp2_with fail
 go_loopg [3,4] n (fun m s z wr=>∃ v:Nat,v<=n/\m=n-v/\s = .int .u32 (aPp v (fun _=>true):Nat)/\z = .int .i64 v/\w=wr)
 case atStart=>exact ⟨0,by omega,rfl,rfl,rfl,rfl⟩
 case round =>
  obtain ⟨v,hv,rfl,rfl,rfl,rfl⟩:=hrel;have hsl:=aJ4 (fun _=>true) (show v<=32 by omega)
  by_cases hlt:v<n
  .have hd0:decide (v<n)=true:=by simpa using hlt
   have hd1:decide (v<32)=true:=by simp;omega
   go_wp2_with fail
   go_roundg (n-(v+1))
   case rel=>exact ⟨v+1,by omega,rfl,by rw [aHw,if_pos rfl,aN6 hsl (by omega)],by go_num,rfl⟩
   case measure=>omega
  .have hd0:decide (v<n)=false:=by simpa using hlt
   obtain rfl:v=n:=by omega
   go_wp2_with fail
   go_ret;exact ⟨rfl,rfl⟩
theorem bMh {S v:Nat} (hS:S<4294967296) (h:S.testBit v=true) (hb:∀ u,u<v->S.testBit u=false):lsb S=2 ^ v:=by
 have hv:=aP0 hS h
 have e:(aB1 S).head?=some v:=by
  unfold aB1;rw [List.head?_filter,List.find?_range_eq_some];exact ⟨h,by simpa using hv,fun j hj=>by rw [hb j hj];rfl⟩
 rw [bJ6 hS,e]
theorem bJ7 {S:Nat} (hS:S<4294967296) (hb:∀ u,u<32->S.testBit u=false):lsb S=0:=by
 rw [aXt hS];exact aVi hS (by decide) (fun v hv=>by rw [hb v hv];simp)
def aZo (S v:Nat):Nat:=((List.range v).filter (S.testBit ·)).length
theorem bCr (S v:Nat):aZo S (v+1)=aZo S v+if S.testBit v=true then 1 else 0:=by
 unfold aZo;rw [List.range_succ,List.filter_append];cases h:S.testBit v <;> simp [h]
theorem bIe (S v:Nat):aZo S v<=v:=by
 unfold aZo;have:=List.length_filter_le (S.testBit ·) (List.range v);simpa using this
theorem aKz (S:Nat) (w:World) (hS:S<4294967296) :
  Calls prog 70 #[.int .u32 (S:Int)] w fun e w'=>e = .returned (.int .i64 ((aB1 S).length:Int))/\w=w':=by
 have HS:=aA1 hS;have HF:Hid ((aB1 S).length=aZo S 32):=rfl;clear hS;go_enter func70,ntmps70
 go_wp2_with fail
 go_loopg [3,4] 32 (fun m n z wr=>∃ v:Nat,v<=32/\m=32-v/\n = .int .i64 (aZo S v:Int)/\z = .int .i64 (v:Int)/\w=wr)
 case atStart=>exact ⟨0,by omega,rfl,rfl,rfl,rfl⟩
 case round =>
  obtain ⟨v,hv,rfl,rfl,rfl,rfl⟩:=hrel;have hc:=bIe S v
  by_cases hlt:v<32
  .have hd0:decide (v<32)=true:=by simpa using hlt
   have HH:Hid (aR0 S (v:Int)=S.testBit v):=by show _=_;unfold aR0;rw [decide_eq_true (show (0:Int)<=(v:Int) by omega),decide_eq_true (show (v:Int)<32 by omega)];rfl
   have HN:=aA1 (bCr S v);cases hb:S.testBit v with
   | true =>
    rw [hb] at HH HN;rw [if_pos rfl] at HN
    go_wp2_with (go_at_call 79;refine (aIm S _ _ HS.out).mono ?_;rintro e w2 ⟨rfl,rfl⟩;rw [HH.out])
    go_roundg (32-(v+1))
    case rel=>exact ⟨v+1,by omega,rfl,by rw [HN.out];go_num,by go_num,rfl⟩
    case measure=>omega
   | false =>
    rw [hb] at HH HN;rw [if_neg (by decide),Nat.add_zero] at HN
    go_wp2_with (go_at_call 79;refine (aIm S _ _ HS.out).mono ?_;rintro e w2 ⟨rfl,rfl⟩;rw [HH.out])
    go_roundg (32-(v+1))
    case rel=>exact ⟨v+1,by omega,rfl,by rw [HN.out];simp,by go_num,rfl⟩
    case measure=>omega
  .have hd0:decide (v<32)=false:=by simpa using hlt
   obtain rfl:v=32:=by omega
   go_wp2_with fail
   go_ret;exact ⟨by rw [HF.out];rfl,rfl⟩
theorem aS2 (S:Nat) (w:World) (hS:S<4294967296) :
  Calls prog 127 #[.int .u32 (S:Int)] w fun e w'=>e = .returned (.int .u32 (lsb S:Int))/\w=w':=by
 have HS:=aA1 hS;clear hS;go_enter func127,ntmps127
 go_wp2_with fail
 go_loopg [3] 32 (fun m z wr=>∃ v:Nat,v<=32/\m=32-v/\z = .int .i64 (v:Int)/\Hid (∀ u,u<v->S.testBit u=false)/\w=wr)
 case atStart=>exact ⟨0,by omega,rfl,rfl,fun u hu=>absurd hu (Nat.not_lt_zero _),rfl⟩
 case round =>
  obtain ⟨v,hv,rfl,rfl,HZ,rfl⟩:=hrel
  by_cases hlt:v<32
  .have hd0:decide (v<32)=true:=by simpa using hlt
   have hd1:decide ((v:Int)<32)=true:=decide_eq_true (by omega)
   have HH:Hid (aR0 S (v:Int)=S.testBit v):=by show _=_;unfold aR0;rw [decide_eq_true (show (0:Int)<=(v:Int) by omega),decide_eq_true (show (v:Int)<32 by omega)];rfl
   have e3:(2:Int) ^ v=((2 ^ v:Nat):Int):=by rw [Int.natCast_pow];rfl
   have e2:(2:Int) ^ v % 4294967296=((2 ^ v:Nat):Int):=by
    rw [e3];exact Int.emod_eq_of_lt (b:=4294967296) (Int.natCast_nonneg _) (Int.ofNat_lt.2 (aL8 hlt))
   have E2:=aA1 e2;clear e2 e3;cases hb:S.testBit v with
   | true =>
    have HLS:=aA1 (bMh HS.out hb HZ.out);rw [hb] at HH
    go_wp2_with (go_at_call 79;refine (aIm S _ _ HS.out).mono ?_;rintro e w2 ⟨rfl,rfl⟩;rw [HH.out])
    go_ret;refine ⟨?_,rfl⟩
    rw [HLS.out,<- E2.out]
    try rfl
   | false =>
    have HZ2:Hid (∀ u,u<v+1->S.testBit u=false):=fun u hu=>by
     rcases Nat.lt_or_ge u v with h | h
     .exact HZ.out u h
     .obtain rfl:u=v:=by omega
      exact hb
    rw [hb] at HH
    go_wp2_with (go_at_call 79;refine (aIm S _ _ HS.out).mono ?_;rintro e w2 ⟨rfl,rfl⟩;rw [HH.out])
    go_roundg (32-(v+1))
    case rel=>exact ⟨v+1,by omega,rfl,by go_num,HZ2,rfl⟩
    case measure=>omega
  .have hd0:decide (v<32)=false:=by simpa using hlt
   obtain rfl:v=32:=by omega
   have HLS:=aA1 (bJ7 HS.out HZ.out)
   go_wp2_with fail
   go_ret;exact ⟨by rw [HLS.out];rfl,rfl⟩
def aPu (l:List Nat) (w:World) (e:Ending) (w':World):Prop :=
 ∃ A c,e = .returned (.slice A l.length c)/\aK2 w' A l.length l/\l.length<=c/\c<=maxLen/\Bel w w'
theorem aPu.own {w w':World} {base e c:Nat} {A:Option Addr} {xs:List Nat} (h:w'.ownsRow base e 1 (.slice A xs.length c) xs.length (xs.map aF7)) (hb:Bel w w'):aPu xs w (.returned (.slice A xs.length c)) w' :=
 ⟨A,c,rfl,aRr h,(aDp h).1,(aDp h).2,hb⟩
theorem bB3 (E:Nat) (w:World) (hE:E<4294967296) :
  Calls prog 141 #[.int .u32 (E:Int)] w (aPu (aAo E (lsb E)) w):=by
 have HB:=Bel.refl w;obtain ⟨i0,hi0,hz0,hz1,hz2⟩:=info_parts aJz;have HLP:=aA1 (aFo (S:=E))
 have HLE:Hid ((aAo E (lsb E)).length<=4294967296):=by
  by_cases h0:E=0
  .subst h0;show _<=_;rw [aLk,aBq];simp
  .have:=aNr hE (E-lsb E+1) (lsb E) (by omega) aFo (aKp hE h0)
   show _<=_
   omega
 have hl1:=bK8 hE;go_enter func141,ntmps141
 go_wp2_with (go_at_call 127;refine (aS2 E _ hE).mono ?_;rintro e w' ⟨rfl,rfl⟩)
 go_loopg [3,4] (aSv E (lsb E)) (fun m r x wr=>∃ (s:Nat) (pre:List Nat) (R:Option Addr) (rc:Nat),m=aSv E s/\r = .slice R pre.length rc/\x = .int .u32 (s:Int)/\s<4294967296/\Hid (s&&&E=s)/\Hid (pre++aAo E s=aAo E (lsb E))/\Hid (wr.ownsRow w.heap.size 34 1 (.slice R pre.length rc) pre.length (pre.map aF7))/\Bel w wr)
 case atStart=>exact ⟨lsb E,[],none,0,rfl,rfl,rfl,hl1,HLP.out,by show _=_;simp,World.ownsRow_nil _ _ _ _,HB⟩
 case round =>
  clear HB hl1 HLP;obtain ⟨s,pre,R,rc,rfl,rfl,rfl,hs,HS,HP,HO,HB⟩:=hrel
  have hpl:pre.length<=4294967296:=by
   have h1:=congrArg List.length HP.out;have h3:=HLE.out;rw [List.length_append] at h1;omega
  by_cases hs0:s=0
  .have hq:((s:Int) != 0)=false:=by simpa using hs0
   have HZ:=aA1 hs0;clear hs0
   go_wp2_with fail
   go_ret;have h1:=HP.out;rw [HZ.out,aBq,List.append_nil] at h1;rw [<- h1];exact aPu.own HO.out HB
  .have hq:((s:Int) != 0)=true:=by simpa using hs0
   have hse:=aD1 HS.out;have q:=aTv (E:=E) (s:=s) hE hse;have hnl:=bBz (E:=E) (s:=s) hE;have HM:=aA1 (aTo hE HS.out hs0);have HST:=aA1 (aEu hE HS.out hs0);have HNP:=aA1 (aOk (E:=E) (s:=s));clear hs0;generalize aGy 32 E s=nx at *
   have HP2:Hid ((pre++[s])++aAo E nx=aAo E (lsb E)):=by
    have h1:=HP.out;rw [HST.out] at h1;show _=_
    rw [List.append_assoc];exact h1
   go_wp2_with (at_builtin;refine aC5 _ rfl (.tmp 14) (.tmp 16) 31 rfl w.heap.size 34 i0 (.int .u32 0) 1 4 underlying31 hi0 hz0 hz1 hz2 rfl (by decide) R pre.length rc (pre.map aF7) rfl (HO.out.alloc _) wr.heap.size #[.int .u32 (s:Int)] 34 (0,0) rfl (aBr _ _) rfl (aGh _) (by unfold maxLen;omega) (by omega) (by have:=HB.size;simp;omega) ?_;intro R4 c4 w4 hown hgr hat;have HO4:=aA1 hown;have HB4:=(HB.alloc (.cells #[.int .u32 (s:Int)] 34)).grown hgr (fun k hk=>aK8 HO.out k hk);clear hown hgr hat)
   go_roundg (aSv E nx)
   case rel =>
    refine ⟨nx,pre++[s],R4,c4,rfl,by simp,by go_num,hnl,HNP,HP2,?_,HB4⟩
    have:=HO4.out;show World.ownsRow _ _ _ _ _ _ _
    simpa [aF7] using this
   case measure=>exact HM.out
def upB (E v:Nat):List Nat:=((List.range v).filter (E.testBit ·)).map aT2
theorem bJv {E v:Nat} (h:E.testBit v=true):upB E (v+1)=upB E v++[aT2 v]:=by
 unfold upB;rw [List.range_succ,List.filter_append];simp [h]
theorem bHn {E v:Nat} (h:E.testBit v=false):upB E (v+1)=upB E v:=by
 unfold upB;rw [List.range_succ,List.filter_append];simp [h]
theorem bLc (E v:Nat):(upB E v).length<=v:=by
 unfold upB;have:=List.length_filter_le (E.testBit ·) (List.range v);simpa using this
theorem aT5 (v2:Value) (g:Graph) (kind:Int) (E:Nat) (w:World) (h2:aAl w v2 g) (hg:GOK g) (hG:aB3 g=true) (hk:aGw kind=true) (hE:E<2 ^ g.ports.length) :
  Calls prog 90 #[v2,.int .i64 kind,.int .u32 (E:Int)] w (aC2 (aN8 g kind E) w):=by
 have HF:Hid (aN8 g kind E=if kind=1 then (upB E g.ports.length,0) else if kind=4 then (if E=0 then [] else [E],0) else if 10<(aB1 E).length then ([],3) else ((aAo E (lsb E)).filter (fun l=>decide (kind=3)||bBw g l&&&l==0),0)):=rfl
 have HGV:=aA1 (fun w' (k:Bel w w')=>h2.keep k);obtain ⟨A3,k3,A4,k4,rfl,_,_,_,_,_,_⟩:=h2;obtain ⟨i0,hi0,hz0,hz1,hz2⟩:=info_parts aJz;have HGL:=aA1 hG;have HG:=aA1 hg;have hle:=hg.le;have HGT:Hid (aFz g=true):=(aG7 g).2 hg;have hE32:E<4294967296:=Nat.lt_of_lt_of_le hE (Nat.pow_le_pow_right (n:=2) (by decide) (show g.ports.length<=32 by omega))
 have HKB:=aA1 hk;obtain ⟨M,hM⟩:∃ M,aPp g.ports.length (fun _=>true)=M:=⟨_,rfl⟩;have HM:=aA1 hM;have HD:=aIx (T:=M) hE32;have hwb:=aPk (E:=E) (show g.ports.length<=32 by omega) hE
 rw [hM] at hwb;rw [hwb] at HD;have hbn:=aHi E M;have hz:((aHo E M:Int) != 0)=false:=by simp at HD ⊢;omega
 have hz':(aHo E M != 0)=false:=by simp at HD ⊢;omega
 have hkk:1<=kind/\kind<=4:=by unfold aGw at hk;simpa using hk
 have HW:=Bel.refl (w.alloc (.cells #[.slice A3 g.ids.length k3,.slice A4 g.ports.length k4] 29));have q0:=aA9 HW 0 (v := .slice A3 g.ids.length k3) rfl;have q1:=aA9 HW 1 (v := .slice A4 g.ports.length k4) rfl;have q2:=aAz HW;clear hG hg hk hM hwb HD hE
 by_cases k1:kind=1
 .rw [if_pos k1] at HF
  subst k1;clear hkk;go_enter func90,ntmps90
  go_wp2_with (first
   | (go_at_call 124;refine (aBw _ g _ (HGV.out _ (aA3 HW)) HGL.out).mono ?_;rintro e w' ⟨rfl,hb⟩;rw [HGT.out];replace HW:=HW.trans hb;clear hb q0 q1 q2;have q0:=aA9 HW 0 (v := .slice A3 g.ids.length k3) rfl;have q1:=aA9 HW 1 (v := .slice A4 g.ports.length k4) rfl;have q2:=aAz HW)
   | (go_at_call 72;refine (aD2 _ _).mono ?_;rintro e w' ⟨rfl,rfl⟩;rw [HKB.out])
   | (go_at_call 125;refine (aFh g.ports.length _ (by omega)).mono ?_;rintro e w' ⟨rfl,rfl⟩;rw [HM.out]))
  go_loopg [8,9] g.ports.length (fun m r z wr=>∃ (v:Nat) (R:Option Addr) (rc:Nat),v<=g.ports.length/\m=g.ports.length-v/\r = .slice R (upB E v).length rc/\z = .int .i64 (v:Int)/\Hid (wr.ownsRow (w.heap.size+1) 34 1 (.slice R (upB E v).length rc) (upB E v).length ((upB E v).map aF7))/\Bel (w.alloc (.cells #[.slice A3 g.ids.length k3,.slice A4 g.ports.length k4] 29)) wr)
  case atStart=>exact ⟨0,none,0,by omega,rfl,rfl,rfl,World.ownsRow_nil _ _ _ _,HW⟩
  case round =>
   clear HW q0 q1 q2 hz hz' hbn;obtain ⟨v,R,rc,hv,rfl,rfl,rfl,HO,HW⟩:=hrel;have q0:=aA9 HW 0 (v := .slice A3 g.ids.length k3) rfl;have q1:=aA9 HW 1 (v := .slice A4 g.ports.length k4) rfl;have q2:=aAz HW;have hul:=bLc E v
   by_cases hlt:v<g.ports.length
   .have hd0:decide (v<g.ports.length)=true:=by simpa using hlt
    have hv32:v<32:=by omega
    have hd1:decide (v<32)=true:=by simpa using hv32
    have HH:Hid (aR0 E (v:Int)=E.testBit v):=by show _=_;unfold aR0;rw [decide_eq_true (show (0:Int)<=(v:Int) by omega),decide_eq_true (show (v:Int)<32 by omega)];rfl
    cases hb:E.testBit v with
    | true =>
     rw [hb] at HH;have HU:=aA1 (bJv hb)
     have e2:(2:Int) ^ v % 4294967296=((aT2 v:Nat):Int):=by
      have e3:(2:Int) ^ v=((aT2 v:Nat):Int):=by unfold aT2;rw [Int.natCast_pow];rfl
      rw [e3];exact Int.emod_eq_of_lt (b:=4294967296) (Int.natCast_nonneg _) (Int.ofNat_lt.2 (aL8 hv32))
     have e4:IntKind.u32.wrap (2 ^ min v 32)=((aT2 v:Nat):Int):=by
      rw [Nat.min_eq_left (by omega),<- e2];rfl
     clear hb
     go_wp2_with (first
      | (go_at_call 79;refine (aIm E _ _ hE32).mono ?_;rintro e w2 ⟨rfl,rfl⟩;rw [HH.out])
      | (at_builtin;refine aC5 _ rfl (.tmp 41) (.tmp 45) 31 rfl (w.heap.size+1) 34 i0 (.int .u32 0) 1 4 underlying31 hi0 hz0 hz1 hz2 rfl (by decide) R (upB E v).length rc ((upB E v).map aF7) rfl (HO.out.alloc _) wr.heap.size #[.int .u32 ((aT2 v:Nat):Int)] 34 (0,0) rfl (aBr _ _) rfl (aGh _) (by unfold maxLen;omega) (by omega) (by have:=HW.size;simp at this ⊢;omega) ?_;intro R4 c4 w4 hown hgr hat;have HO4:=aA1 hown;have HB4:=(HW.alloc (.cells #[.int .u32 ((aT2 v:Nat):Int)] 34)).grown hgr (fun k hk=>by have:=aK8 HO.out k hk;simp;omega);clear hown hgr hat))
     go_roundg (g.ports.length-(v+1))
     case rel =>
      refine ⟨v+1,R4,c4,by omega,rfl,by rw [HU.out];simp,by go_num,?_,HB4⟩
      have:=HO4.out;show World.ownsRow _ _ _ _ _ _ _
      rw [HU.out];simpa [aF7] using this
     case measure=>omega
    | false =>
     rw [hb] at HH;have HU:=aA1 (bHn hb);clear hb
     go_wp2_with (go_at_call 79;refine (aIm E _ _ hE32).mono ?_;rintro e w2 ⟨rfl,rfl⟩;rw [HH.out])
     go_roundg (g.ports.length-(v+1))
     case rel=>exact ⟨v+1,R,rc,by omega,rfl,by rw [HU.out],by go_num,by show World.ownsRow _ _ _ _ _ _ _;rw [HU.out];exact HO.out,HW⟩
     case measure=>omega
   .have hd0:decide (v<g.ports.length)=false:=by simpa using hlt
    obtain rfl:v=g.ports.length:=by omega
    go_wp2_with fail
    go_ret2
    rw [HF.out];exact aC2.own HO.out (aA3 HW)
 rw [if_neg k1] at HF;have k1':(kind==1)=false:=by simpa using k1
 by_cases hk4:kind=4
 .rw [if_pos hk4] at HF
  subst hk4;clear hkk k1
  by_cases h0:E=0
  .rw [if_pos h0] at HF
   have d0:((E:Int) != 0)=false:=by simpa using h0
   clear h0;go_enter func90,ntmps90
   go_wp2_with (first
    | (go_at_call 124;refine (aBw _ g _ (HGV.out _ (aA3 HW)) HGL.out).mono ?_;rintro e w' ⟨rfl,hb⟩;rw [HGT.out];replace HW:=HW.trans hb;clear hb q0 q1 q2;have q0:=aA9 HW 0 (v := .slice A3 g.ids.length k3) rfl;have q1:=aA9 HW 1 (v := .slice A4 g.ports.length k4) rfl;have q2:=aAz HW)
    | (go_at_call 72;refine (aD2 _ _).mono ?_;rintro e w' ⟨rfl,rfl⟩;rw [HKB.out])
    | (go_at_call 125;refine (aFh g.ports.length _ (by omega)).mono ?_;rintro e w' ⟨rfl,rfl⟩;rw [HM.out]))
   go_ret2
   rw [HF.out];exact aC2.empty _ (aA3 HW)
  .rw [if_neg h0] at HF
   have d0:((E:Int) != 0)=true:=by simpa using h0
   clear h0;go_enter func90,ntmps90
   go_wp2_with (first
    | (go_at_call 124;refine (aBw _ g _ (HGV.out _ (aA3 HW)) HGL.out).mono ?_;rintro e w' ⟨rfl,hb⟩;rw [HGT.out];replace HW:=HW.trans hb;clear hb q0 q1 q2;have q0:=aA9 HW 0 (v := .slice A3 g.ids.length k3) rfl;have q1:=aA9 HW 1 (v := .slice A4 g.ports.length k4) rfl;have q2:=aAz HW)
    | (go_at_call 72;refine (aD2 _ _).mono ?_;rintro e w' ⟨rfl,rfl⟩;rw [HKB.out])
    | (go_at_call 125;refine (aFh g.ports.length _ (by omega)).mono ?_;rintro e w2 ⟨rfl,rfl⟩;rw [HM.out])
    | (at_builtin;refine aC5 _ rfl (.tmp 52) (.tmp 54) 31 rfl (w.heap.size+1) 34 i0 (.int .u32 0) 1 4 underlying31 hi0 hz0 hz1 hz2 rfl (by decide) none 0 0 [] rfl (World.ownsRow_nil _ _ _ _) w'.heap.size #[.int .u32 (E:Int)] 34 (0,0) rfl (aBr _ _) rfl (aGh _) (by unfold maxLen;omega) (by omega) (by have:=HW.size;simp at this ⊢;omega) ?_;intro R4 c4 w4 hown hgr hat;have HO4:=aA1 hown;have HB4:=(HW.alloc (.cells #[.int .u32 (E:Int)] 34)).grown hgr (fun k hk=>by simp [Value.ownBlock] at hk);clear hown hgr hat))
   go_ret2
   rw [HF.out];have h1:=HO4.out;have h2:w4.ownsRow (w.heap.size+1) 34 1 (.slice R4 ([E]:List Nat).length c4) ([E]:List Nat).length (([E]:List Nat).map aF7):=by simpa [aF7] using h1
   exact aC2.own h2 (aA3 HB4)
 rw [if_neg hk4] at HF;have k4':(kind==4)=false:=by simpa using hk4
 by_cases h10:10<(aB1 E).length
 .rw [if_pos h10] at HF
  have d10:decide ((10:Int)<((aB1 E).length:Int))=true:=by simp;omega
  clear k1 hk4 h10 hkk;go_enter func90,ntmps90
  go_wp2_with (first
   | (go_at_call 124;refine (aBw _ g _ (HGV.out _ (aA3 HW)) HGL.out).mono ?_;rintro e w' ⟨rfl,hb⟩;rw [HGT.out];replace HW:=HW.trans hb;clear hb q0 q1 q2;have q0:=aA9 HW 0 (v := .slice A3 g.ids.length k3) rfl;have q1:=aA9 HW 1 (v := .slice A4 g.ports.length k4) rfl;have q2:=aAz HW)
   | (go_at_call 72;refine (aD2 _ _).mono ?_;rintro e w' ⟨rfl,rfl⟩;rw [HKB.out])
   | (go_at_call 125;refine (aFh g.ports.length _ (by omega)).mono ?_;rintro e w2 ⟨rfl,rfl⟩;rw [HM.out])
   | (go_at_call 70;refine (aKz E _ hE32).mono ?_;rintro e w3 ⟨rfl,rfl⟩))
  go_ret2
  rw [HF.out];exact aC2.empty _ (aA3 HW)
 rw [if_neg h10] at HF;have d10:decide ((10:Int)<((aB1 E).length:Int))=false:=by simp;omega
 have HLE:Hid ((aAo E (lsb E)).length<=4294967296):=by
  by_cases h0:E=0
  .subst h0;show _<=_;rw [aLk,aBq];simp
  .have:=aNr hE32 (E-lsb E+1) (lsb E) (by omega) aFo (aKp hE32 h0)
   show _<=_
   omega
 have HLM:Hid (∀ l∈aAo E (lsb E),l<4294967296):=fun l hl=>(aNg hE32 hl).2.2;generalize hLL:aAo E (lsb E)=L at HF HLE HLM;generalize hpf:(fun l=>decide (kind=3)||bBw g l&&&l==0)=pf at HF;have HPF:Hid (∀ l,pf l=(decide (kind=3)||bBw g l&&&l==0)):=fun l=>by rw [<- hpf]
 clear hpf;have HLQ:=aA1 hLL;clear h10 hLL;go_enter func90,ntmps90
 go_wp2_with (first
  | (go_at_call 124;refine (aBw _ g _ (HGV.out _ (aA3 HW)) HGL.out).mono ?_;rintro e w' ⟨rfl,hb⟩;rw [HGT.out];replace HW:=HW.trans hb;clear hb q0 q1 q2;have q0:=aA9 HW 0 (v := .slice A3 g.ids.length k3) rfl;have q1:=aA9 HW 1 (v := .slice A4 g.ports.length k4) rfl;have q2:=aAz HW)
  | (go_at_call 72;refine (aD2 _ _).mono ?_;rintro e w' ⟨rfl,rfl⟩;rw [HKB.out])
  | (go_at_call 125;refine (aFh g.ports.length _ (by omega)).mono ?_;rintro e w2 ⟨rfl,rfl⟩;rw [HM.out])
  | (go_at_call 70;refine (aKz E _ hE32).mono ?_;rintro e w3 ⟨rfl,rfl⟩)
  | (go_at_call 141;have hps:=bB3 E w' hE32;rw [HLQ.out] at hps;refine hps.mono ?_;rintro e w4 ⟨AL,cL,rfl,hAL,_,_,hb⟩;have HAL:=aA1 (fun w5 (k:Bel w4 w5)=>hAL.keep k);have HW4:=HW.trans hb;clear hb hAL))
 go_loopg [8,11] L.length (fun m r z wr=>∃ (i:Nat) (pre:List Nat) (R:Option Addr) (rc:Nat),i<=L.length/\m=L.length-i/\r = .slice R pre.length rc/\z = .int .i64 (i:Int)/\Hid (pre++(L.drop i).filter pf=L.filter pf)/\Hid (wr.ownsRow w4.heap.size 34 1 (.slice R pre.length rc) pre.length (pre.map aF7))/\Bel w4 wr)
 case atStart=>exact ⟨0,[],none,0,by omega,rfl,rfl,rfl,by show _=_;simp,World.ownsRow_nil _ _ _ _,Bel.refl _⟩
 case round =>
  clear HW q0 q1 q2 hz hz' hbn;obtain ⟨i,pre,R,rc,hi,rfl,rfl,rfl,HP,HO,HB⟩:=hrel;have HW:=HW4.trans HB;have hLle:=HLE.out
  have hpl:pre.length<=4294967296:=by
   have h1:=congrArg List.length HP.out;have h2:=List.length_filter_le pf L;have h3:=HLE.out;rw [List.length_append] at h1;omega
  by_cases hlt:i<L.length
  .have hd0:decide (i<L.length)=true:=by simpa using hlt
   obtain ⟨bL,oL,rfl,hbL,c0w⟩:=(HAL.out _ (Bel.refl w4)).at_ i hlt;have c0:=(HB.cell hbL).trans c0w;have hbL2:=Nat.lt_of_lt_of_le hbL HB.size;have hl32:=HLM.out _ (List.getElem_mem hlt);have hkI:(i:Int)<(L.length:Int):=by omega
   rw [List.drop_eq_getElem_cons hlt,List.filter_cons] at HP;generalize L[i]=l at *
   by_cases k3':kind=3
   .have dk:(kind==3)=true:=by simpa using k3'
    have hpl1:pf l=true:=by rw [HPF.out,decide_eq_true k3',Bool.true_or]
    rw [if_pos hpl1] at HP
    have HPn:Hid ((pre++[l])++(L.drop (i+1)).filter pf=L.filter pf):=by
     show _=_
     rw [List.append_assoc];exact HP.out
    clear k3' HP hpl1
    go_wp2_with fail
    go_quiet (fail)
    replace HW:=HW.drewN nq;replace HB:=HB.drewN nq;replace HO:=aA1 (((Bel.refl wr).drewN nq).owns HO.out);generalize wr.drewN nq=WQ at *;have c0Q:=(HB.cell hbL).trans c0w;have hbL3:=Nat.lt_of_lt_of_le hbL HB.size
    go_wp2_with (at_builtin;refine aC5 _ rfl (.tmp 84) (.tmp 89) 31 rfl w4.heap.size 34 i0 (.int .u32 0) 1 4 underlying31 hi0 hz0 hz1 hz2 rfl (by decide) R pre.length rc (pre.map aF7) rfl (HO.out.alloc _) WQ.heap.size #[.int .u32 (l:Int)] 34 (0,0) rfl (aBr _ _) rfl (aGh _) (by unfold maxLen;omega) (by omega) (by have:=HB.size;simp;omega) ?_;intro R4 c4 w5 hown hgr hat;have HO4:=aA1 hown;have HB4:=(HB.alloc (.cells #[.int .u32 (l:Int)] 34)).grown hgr (fun k hk=>aK8 HO.out k hk);clear hown hgr hat)
    go_roundg (L.length-(i+1))
    case rel =>
     refine ⟨i+1,pre++[l],R4,c4,by omega,rfl,by simp,by go_num,HPn,?_,HB4⟩
     have:=HO4.out;show World.ownsRow _ _ _ _ _ _ _
     simpa [aF7] using this
    case measure=>omega
   .have dk:(kind==3)=false:=by simpa using k3'
    have hba:=aH3 (S:=bBw g l) (T:=l) (aJ4 _ (by omega)) hl32
    obtain ⟨bb,hbb⟩:∃ bb,(bBw g l&&&l==0)=bb:=⟨_,rfl⟩;have hbz:(((bBw g l&&&l:Nat):Int)==0)=bb:=by rw [<- hbb,Bool.eq_iff_iff];simp
    have hpl1:pf l=bb:=by rw [HPF.out,decide_eq_false k3',Bool.false_or,hbb]
    rw [hpl1] at HP;clear hpl1;have HK3:=aA1 k3';have hcell:=aA1 (fun w6 (kk:Bel w4 w6)=>show w6.cell? ⟨w.heap.size,0,none⟩=some (.slice A3 g.ids.length k3)/\w6.cell? ⟨w.heap.size,1,none⟩=some (.slice A4 g.ports.length k4)/\w6.cell? ⟨bL,oL+i,none⟩=some (.int .u32 (l:Int))/\w.heap.size<w6.heap.size/\bL<w6.heap.size from ⟨aA9 (HW4.trans kk) 0 rfl,aA9 (HW4.trans kk) 1 rfl,(kk.cell (Nat.lt_of_lt_of_le hbL (Nat.le_refl _))).trans c0w,aAz (HW4.trans kk),Nat.lt_of_lt_of_le hbL kk.size⟩)
    clear k3' hbb
    go_upto_region 26 with fail
    replace HB:=HB.drew
    go_region_held3 (fun w6=>w6.cell? ⟨w.heap.size,0,none⟩=some (.slice A3 g.ids.length k3)/\w6.cell? ⟨w.heap.size,1,none⟩=some (.slice A4 g.ports.length k4)/\w6.cell? ⟨bL,oL+i,none⟩=some (.int .u32 (l:Int))/\w.heap.size<w6.heap.size/\bL<w6.heap.size) (exact hcell.out _ HB) ((go_simp;go_at_call 126;refine (aYm _ g l _ (HGV.out _ (aA3 (HW4.trans HB))) HG.out HGL.out hl32).mono ?_;rintro e wN ⟨rfl,hb⟩;replace HB:=HB.trans hb;replace HO:=aA1 (hb.owns HO.out);clear hb))
    cases bb with
    | true =>
     have HPn:Hid ((pre++[l])++(L.drop (i+1)).filter pf=L.filter pf):=by
      have:=HP.out;rw [if_pos rfl] at this;show _=_
      rw [List.append_assoc];exact this
     have HW:=HW4.trans HB;have c0N:=(HB.cell hbL).trans c0w;have hbL3:=Nat.lt_of_lt_of_le hbL HB.size
     go_wp2_with (at_builtin;refine aC5 _ rfl (.tmp 84) (.tmp 89) 31 rfl w4.heap.size 34 i0 (.int .u32 0) 1 4 underlying31 hi0 hz0 hz1 hz2 rfl (by decide) R pre.length rc (pre.map aF7) rfl (HO.out.alloc _) wN.heap.size #[.int .u32 (l:Int)] 34 (0,0) rfl (aBr _ _) rfl (aGh _) (by unfold maxLen;omega) (by omega) (by have:=HB.size;simp;omega) ?_;intro R4 c4 w5 hown hgr hat;have HO4:=aA1 hown;have HB4:=(HB.alloc (.cells #[.int .u32 (l:Int)] 34)).grown hgr (fun k hk=>aK8 HO.out k hk);clear hown hgr hat)
     go_roundg (L.length-(i+1))
     case rel =>
      refine ⟨i+1,pre++[l],R4,c4,by omega,rfl,by simp,by go_num,HPn,?_,HB4⟩
      have:=HO4.out;show World.ownsRow _ _ _ _ _ _ _
      simpa [aF7] using this
     case measure=>omega
    | false =>
     have HPn:Hid (pre++(L.drop (i+1)).filter pf=L.filter pf):=by
      have:=HP.out;rw [if_neg (by decide)] at this
      exact this
     go_wp2_with fail
     go_roundg (L.length-(i+1))
     case rel=>exact ⟨i+1,pre,R,rc,by omega,rfl,rfl,by go_num,HPn,HO.out,HB⟩
     case measure=>omega
  .have hd0:decide (i<L.length)=false:=by simpa using hlt
   obtain rfl:i=L.length:=by omega
   rw [List.drop_length,List.filter_nil,List.append_nil] at HP
   go_wp2_with fail
   go_ret2
   rw [HF.out,<- HP.out];exact aC2.own HO.out (aA3 HW)
end Go.Proofs.YtmifhmdghfbalaaGreatDoor

