/- Merged. -/
import Derived.Test.YtmoebklkkjbigaaGreatDoorZ20
import Derived.Test.YtmoebklkkjbigaaGreatDoorZ18
import Derived.BigQuiet
set_option linter.unusedSimpArgs false
set_option linter.unnecessarySimpa false
set_option linter.unusedVariables false
set_option maxRecDepth 100000
set_option maxHeartbeats 2000000
open Go.Proofs.Tryz

namespace Go.Proofs.YtmoebklkkjbigaaGreatDoor
def aKp (E:Nat) (n:Int):Nat->List (Nat × Int)->Bool
 | _,[]=>true
 | b,x :: l=>decide (b<x.1)&&aBj x.1 E&&decide (0<=x.2)&&decide (x.2<n)&&aKp E n x.1 l
def aBu (E:Nat) (n:Int) (l:List (Nat × Int)):Bool:=decide (E<16777216)&&(decide (E≠0)==decide (0<l.length))&&aKp E n 0 l
def aCf (s:Spc):Bool:=decide (1<=s.enabled.length)&&decide (s.arcs.length=s.enabled.length)&&(List.range s.enabled.length).all fun k=>aBu (s.enabled.getD k 0) s.enabled.length (s.arcs.getD k [])
def wfS (s:Spc):Prop:=(∀ E∈s.enabled,E<4294967296)/\∀ l∈s.arcs,∀ x∈l,x.1<4294967296
def aCy (s:Spc):Bool:=decide (s.enabled.length<=700)&&decide (s.arcs.length<=700)&&s.arcs.all fun l=>decide (l.length<=70)
theorem aB5 {s:Spc} (h:aCy s=true):s.enabled.length<=700/\s.arcs.length<=700/\∀ l∈s.arcs,l.length<=70:=by
 unfold aCy at h;simp only [Bool.and_eq_true,decide_eq_true_eq,List.all_eq_true] at h
 exact ⟨h.1.1,h.1.2,h.2⟩
theorem bC3 {E:Nat} {n:Int} {b i:Nat} {l:List (Nat × Int)} (hi:i<l.length):aKp E n b (l.drop i)=(decide (b<l[i].1)&&aBj l[i].1 E&&decide (0<=l[i].2)&&decide (l[i].2<n)&&aKp E n l[i].1 (l.drop (i+1))):=by
 rw [List.drop_eq_getElem_cons hi];rfl
theorem aWf {E:Nat} {n:Int} {b:Nat} {l:List (Nat × Int)}:aKp E n b (l.drop l.length)=true:=by rw [List.drop_length];rfl
open Go.RowKit
attribute [local go_sem] Oper.semAt_some
def bLc (p:Value):Nat:=match p with | .int _ x=>(x+1).toNat | _=>0
theorem aT6 (m:Nat):(List.range (m+1)).reverse=m :: (List.range m).reverse:=by rw [List.range_succ,List.reverse_append];rfl
theorem aBf.cell {E:Nat->Prop} {A B:World} (h:aBf E A B) {k o:Nat} {v:Value} (hc:A.cell? ⟨k,o,none⟩=some v) (hE:E k):B.cell? ⟨k,o,none⟩=some v:=by
 have hk:k<A.heap.size:=by
  rcases Nat.lt_or_ge k A.heap.size with h | h
  .exact h
  .simp [World.cell?,Array.getElem?_eq_none h] at hc
 rw [World.cell?_of_block (h.2 k hk hE)];exact hc
theorem aWq (A:Option Addr) (n c:Nat) (w:World) :
  Calls prog 86 #[.slice A n c] w fun e w'=>e = .returned (.func (.func 127) #[] #[.pointer (some ⟨w.heap.size,0,none⟩)])/\w'=w.alloc (.cells #[.slice A n c] 99):=by
 go_enter func86,ntmps86;go_wp2;go_ret;exact ⟨rfl,rfl⟩
theorem bL4 (n:Nat) (B b o len cp:Nat) (R:Nat->Option Addr) (l cc:Nat->Nat) (w:World) (hn:1<=n) (hB:Boxed w B 99 (.slice (some ⟨b,o,none⟩) len cp)) (hb:b<w.heap.size) (hv:∀ v,v<len->w.cell? ⟨b,o+v,none⟩=some (.slice (R v) (l v) (cc v))) (hl:len<=100) :
  bKl Fence.wide n prog 127 #[.pointer (some ⟨B,0,none⟩)] (fun v:Nat=>#[.int .i64 (v:Int),.slice (R v) (l v) (cc v)]) (fun _=>False) (fun k=>k=B∨k=b) (List.range len).reverse w:=by
 intro lp J Jx W hW hJ hJx hY h0
 have HBW:Hid (Boxed W B 99 (.slice (some ⟨b,o,none⟩) len cp)):=(hW.block B hB.lt).trans hB;have HVW:Hid (∀ v,v<len->W.cell? ⟨b,o+v,none⟩=some (.slice (R v) (l v) (cc v))):=fun v h=>(hW.cell hb).trans (hv v h);have hbW:=Nat.lt_of_lt_of_le hb hW.size;clear hB hv hb;refine callsIn_of_wp func127 rfl trivial ?_ rfl
 simp only [ntmps127,List.size_toArray,List.length_cons,List.length_nil,Nat.reduceAdd,Nat.reduceSub,Array.replicate_succ,Array.replicate_zero,List.push_toArray,List.append_toArray,List.nil_append,List.cons_append]
 have c0:=HBW.out.cell;have f0:=HBW.out.frozen;have l0:=HBW.out.lt
 gi_wp2
 clear c0 f0 l0
 gi_loopw [3] (fun p wr=>∃ (pre:List Nat) (m:Nat) (z:Int),p = .int .i64 z/\z=(m:Int)-1/\m<=len/\Hid (pre++(List.range m).reverse=(List.range len).reverse)/\Hid (Boxed wr B 99 (.slice (some ⟨b,o,none⟩) len cp))/\Hid (∀ v,v<len->wr.cell? ⟨b,o+v,none⟩=some (.slice (R v) (l v) (cc v)))/\b<wr.heap.size/\Hid (J pre wr)) (fun p _=>bLc p)
 case atStart=>exact ⟨[],len,_,rfl,rfl,Nat.le_refl _,by show _=_;rfl,HBW,HVW,hbW,h0⟩
 case round =>
  clear h0 HBW HVW hbW;obtain ⟨pre,m,z,rfl,hz,hm,HP,HX,HV,hb,HJ⟩:=hrel;cases m with
  | zero =>
   have d0:decide (0<=z)=false:=by simp;omega
   gi_wp2
   go_end0
   have h:=HP.out;rw [List.range_zero,List.reverse_nil,List.append_nil] at h;exact ⟨⟨_,rfl⟩,.inl (by rw [<- h];exact HJ.out)⟩
  | succ v =>
   obtain rfl:z=(v:Int):=by omega
   clear hz;have d0:decide ((0:Int)<=(v:Int))=true:=by simp
   have hvl:(v:Int)<(len:Int):=by omega
   have hvl':decide (v<len)=true:=by simp;omega
   have hc:=HX.out.cell;have hf:=HX.out.frozen;have hl':=HX.out.lt;have hcv:=HV.out v (by omega)
   have HQ:Hid (pre++[v]++(List.range v).reverse=(List.range len).reverse):=by
    have:=HP.out;rw [aT6] at this;show _=_
    rw [List.append_assoc];exact this
   have hpre:pre++[v] <+: (List.range len).reverse:=⟨_,HQ.out⟩;obtain ⟨fn,tmps,assign,body,hy,hR⟩:=hY pre v wr hpre HJ.out;clear hpre
   gi_wp2
   refine hR.mono ?_
   rintro e w' (⟨rfl,hJ',hs⟩ | ⟨rfl,hJx'⟩)
   .have HX':Hid (Boxed w' B 99 (.slice (some ⟨b,o,none⟩) len cp)):=(hs.2 B HX.out.lt (.inr (.inl rfl))).trans HX.out
    have HV':Hid (∀ v,v<len->w'.cell? ⟨b,o+v,none⟩=some (.slice (R v) (l v) (cc v))):=fun u hu=>hs.cell (HV.out u hu) (.inr (.inr rfl));have hb':=Nat.lt_of_lt_of_le hb hs.1;have HJ':=aA0 hJ';clear hJ' hs hc hf hl' hcv
    gi_wp2
    go_roundw
    case rel=>exact ⟨pre++[v],v,_,rfl,rfl,by omega,HQ,HX',HV',hb',HJ'⟩
    case measure=>simp [bLc]
   .gi_wp2
    refine bodyPost_ret (results_none rfl _ _ _) rfl ?_
    exact ⟨⟨_,rfl⟩,.inr ⟨pre++[v],⟨_,HQ.out⟩,hJx'⟩⟩
theorem aWp (A:Option Addr) (n c:Nat) (w:World) :
  Calls prog 87 #[.slice A n c] w fun e w'=>e = .returned (.func (.func 128) #[] #[.pointer (some ⟨w.heap.size,0,none⟩)])/\w'=w.alloc (.cells #[.slice A n c] 158):=by
 go_enter func87,ntmps87;go_wp2;go_ret;exact ⟨rfl,rfl⟩
theorem bL3 (n:Nat) (B b o len cp:Nat) (f:Nat->Int × Int) (w:World) (hn:1<=n) (hB:Boxed w B 158 (.slice (some ⟨b,o,none⟩) len cp)) (hb:b<w.heap.size) (hv:∀ v,v<len->w.cell? ⟨b,o+v*2,none⟩=some (.int .i64 (f v).1)/\w.cell? ⟨b,o+v*2+1,none⟩=some (.int .i64 (f v).2)) (hl:len<=100) :
  bKl Fence.wide n prog 128 #[.pointer (some ⟨B,0,none⟩)] (fun v:Nat=>#[.int .i64 (v:Int),.agg #[.int .i64 (f v).1,.int .i64 (f v).2]]) (fun _=>False) (fun k=>k=B∨k=b) (List.range len).reverse w:=by
 intro lp J Jx W hW hJ hJx hY h0
 have HBW:Hid (Boxed W B 158 (.slice (some ⟨b,o,none⟩) len cp)):=(hW.block B hB.lt).trans hB;have HVW:Hid (∀ v,v<len->W.cell? ⟨b,o+v*2,none⟩=some (.int .i64 (f v).1)/\W.cell? ⟨b,o+v*2+1,none⟩=some (.int .i64 (f v).2)):=fun v h=>⟨(hW.cell hb).trans (hv v h).1,(hW.cell hb).trans (hv v h).2⟩;have hbW:=Nat.lt_of_lt_of_le hb hW.size;clear hB hv hb;refine callsIn_of_wp func128 rfl trivial ?_ rfl
 simp only [ntmps128,List.size_toArray,List.length_cons,List.length_nil,Nat.reduceAdd,Nat.reduceSub,Array.replicate_succ,Array.replicate_zero,List.push_toArray,List.append_toArray,List.nil_append,List.cons_append]
 have c0:=HBW.out.cell;have f0:=HBW.out.frozen;have l0:=HBW.out.lt
 gi_wp2
 clear c0 f0 l0
 gi_loopw [3] (fun p wr=>∃ (pre:List Nat) (m:Nat) (z:Int),p = .int .i64 z/\z=(m:Int)-1/\m<=len/\Hid (pre++(List.range m).reverse=(List.range len).reverse)/\Hid (Boxed wr B 158 (.slice (some ⟨b,o,none⟩) len cp))/\Hid (∀ v,v<len->wr.cell? ⟨b,o+v*2,none⟩=some (.int .i64 (f v).1)/\wr.cell? ⟨b,o+v*2+1,none⟩=some (.int .i64 (f v).2))/\b<wr.heap.size/\Hid (J pre wr)) (fun p _=>bLc p)
 case atStart=>exact ⟨[],len,_,rfl,rfl,Nat.le_refl _,by show _=_;rfl,HBW,HVW,hbW,h0⟩
 case round =>
  clear h0 HBW HVW hbW;obtain ⟨pre,m,z,rfl,hz,hm,HP,HX,HV,hb,HJ⟩:=hrel;cases m with
  | zero =>
   have d0:decide (0<=z)=false:=by simp;omega
   gi_wp2
   go_end0
   have h:=HP.out;rw [List.range_zero,List.reverse_nil,List.append_nil] at h;exact ⟨⟨_,rfl⟩,.inl (by rw [<- h];exact HJ.out)⟩
  | succ v =>
   obtain rfl:z=(v:Int):=by omega
   clear hz;have d0:decide ((0:Int)<=(v:Int))=true:=by simp
   have hvl:(v:Int)<(len:Int):=by omega
   have hvl':decide (v<len)=true:=by simp;omega
   have hc:=HX.out.cell;have hf:=HX.out.frozen;have hl':=HX.out.lt;obtain ⟨hcv,hcv2⟩:=HV.out v (by omega)
   have HQ:Hid (pre++[v]++(List.range v).reverse=(List.range len).reverse):=by
    have:=HP.out;rw [aT6] at this;show _=_
    rw [List.append_assoc];exact this
   have hpre:pre++[v] <+: (List.range len).reverse:=⟨_,HQ.out⟩;obtain ⟨fn,tmps,assign,body,hy,hR⟩:=hY pre v wr hpre HJ.out;clear hpre
   gi_wp2
   refine hR.mono ?_
   rintro e w' (⟨rfl,hJ',hs⟩ | ⟨rfl,hJx'⟩)
   .have HX':Hid (Boxed w' B 158 (.slice (some ⟨b,o,none⟩) len cp)):=(hs.2 B HX.out.lt (.inr (.inl rfl))).trans HX.out
    have HV':Hid (∀ v,v<len->w'.cell? ⟨b,o+v*2,none⟩=some (.int .i64 (f v).1)/\w'.cell? ⟨b,o+v*2+1,none⟩=some (.int .i64 (f v).2)):=fun u hu=>⟨hs.cell (HV.out u hu).1 (.inr (.inr rfl)),hs.cell (HV.out u hu).2 (.inr (.inr rfl))⟩;have hb':=Nat.lt_of_lt_of_le hb hs.1;have HJ':=aA0 hJ';clear hJ' hs hc hf hl' hcv hcv2
    gi_wp2
    go_roundw
    case rel=>exact ⟨pre++[v],v,_,rfl,rfl,by omega,HQ,HX',HV',hb',HJ'⟩
    case measure=>simp [bLc]
   .gi_wp2
    refine bodyPost_ret (results_none rfl _ _ _) rfl ?_
    exact ⟨⟨_,rfl⟩,.inr ⟨pre++[v],⟨_,HQ.out⟩,hJx'⟩⟩
end Go.Proofs.YtmoebklkkjbigaaGreatDoor

namespace Go.Proofs.YtmoebklkkjbigaaGreatDoor
open Go.RowKit
theorem aOd (n:Nat) (w:World) (hn:n<=30) :
  Calls prog 41 #[.int .i64 (n:Int)] w fun e w'=>e = .returned (.int .u32 (aHv n (fun _=>true):Nat))/\w=w':=by
 go_enter func41,ntmps41
 go_wp2_with fail
 go_loopg [3,4] n (fun m s z wr=>∃ v:Nat,v<=n/\m=n-v/\s = .int .u32 (aHv v (fun _=>true):Nat)/\z = .int .i64 v/\w=wr)
 case atStart=>exact ⟨0,by omega,rfl,rfl,rfl,rfl⟩
 case round =>
  obtain ⟨v,hv,rfl,rfl,rfl,rfl⟩:=hrel;have hsl:=aN5 (fun _=>true) (show v<=32 by omega)
  by_cases hlt:v<n
  .have hd0:decide (v<n)=true:=by simpa using hlt
   have hd1:decide (v<32)=true:=by simp;omega
   go_wp2_with fail
   go_roundg (n-(v+1))
   case rel=>exact ⟨v+1,by omega,rfl,by rw [aHw,if_pos rfl,aK6 hsl (by omega)],by go_num,rfl⟩
   case measure=>omega
  .have hd0:decide (v<n)=false:=by simpa using hlt
   obtain rfl:v=n:=by omega
   go_wp2_with fail
   go_ret;exact ⟨rfl,rfl⟩
def aZx (S v:Nat):Nat:=((List.range v).filter (S.testBit ·)).length
theorem bE6 (S v:Nat):aZx S (v+1)=aZx S v+if S.testBit v=true then 1 else 0:=by
 unfold aZx;rw [List.range_succ,List.filter_append];cases h:S.testBit v <;> simp [h]
theorem bKz (S v:Nat):aZx S v<=v:=by
 unfold aZx;have:=List.length_filter_le (S.testBit ·) (List.range v);simpa using this
theorem aJt (S:Nat) (w:World) (hS:S<4294967296) :
  Calls prog 18 #[.int .u32 (S:Int)] w fun e w'=>e = .returned (.int .i64 ((aAd S).length:Int))/\w=w':=by
 have HS:=aA0 hS;have HF:Hid ((aAd S).length=aZx S 32):=rfl;clear hS;go_enter func18,ntmps18
 go_wp2_with fail
 go_loopg [3,4] 32 (fun m n z wr=>∃ v:Nat,v<=32/\m=32-v/\n = .int .i64 (aZx S v:Int)/\z = .int .i64 (v:Int)/\w=wr)
 case atStart=>exact ⟨0,by omega,rfl,rfl,rfl,rfl⟩
 case round =>
  obtain ⟨v,hv,rfl,rfl,rfl,rfl⟩:=hrel;have hc:=bKz S v
  by_cases hlt:v<32
  .have hd0:decide (v<32)=true:=by simpa using hlt
   have HH:Hid (hasB S (v:Int)=S.testBit v):=by show _=_;unfold hasB;rw [decide_eq_true (show (0:Int)<=(v:Int) by omega),decide_eq_true (show (v:Int)<32 by omega)];rfl
   have HN:=aA0 (bE6 S v);cases hb:S.testBit v with
   | true =>
    rw [hb] at HH HN;rw [if_pos rfl] at HN
    go_wp2_with (go_at_call 43;refine (bHr S _ _ HS.out).mono ?_;rintro e w2 ⟨rfl,rfl⟩;rw [HH.out])
    go_roundg (32-(v+1))
    case rel=>exact ⟨v+1,by omega,rfl,by rw [HN.out];go_num,by go_num,rfl⟩
    case measure=>omega
   | false =>
    rw [hb] at HH HN;rw [if_neg (by decide),Nat.add_zero] at HN
    go_wp2_with (go_at_call 43;refine (bHr S _ _ HS.out).mono ?_;rintro e w2 ⟨rfl,rfl⟩;rw [HH.out])
    go_roundg (32-(v+1))
    case rel=>exact ⟨v+1,by omega,rfl,by rw [HN.out];simp,by go_num,rfl⟩
    case measure=>omega
  .have hd0:decide (v<32)=false:=by simpa using hlt
   obtain rfl:v=32:=by omega
   go_wp2_with fail
   go_ret;exact ⟨by rw [HF.out];rfl,rfl⟩
theorem aCu (l:List UInt8):(ba l).toList=l:=by rw [ByteArray.toList_eq];rfl
theorem aCi (l:List UInt8):aA5 (ba l)=l:=rfl
theorem aCo (s:ByteArray):s.toList=aA5 s:=ByteArray.toList_eq s
theorem aWb {l w:Wd} {ts r:List Tok} (h:aAg l w ts=some r) (hw:w≠[]):aB8 l ts=w/\∃ t,ts=t :: r:=by
 unfold aAg at h;split at h
 .rename_i hp
  injection h with h
  refine ⟨hp,?_⟩
  cases ts with
  | nil=>exact absurd hp.symm hw
  | cons t r'=>exact ⟨t,by rw [<- h];rfl⟩
 .cases h
theorem aWa {l w:Wd} {ts:List Tok} (h:aAg l w ts=none):aB8 l ts≠w:=by
 unfold aAg at h;split at h
 .cases h
 .assumption
theorem aC0 {w:World} {B:Nat} {T:ByteArray} {ts r:List Tok} {v2 v3 v4 v5 v6:Value} (h:RdX w B T ts v2 v3 v4 v5 v6) (s:ByteArray) (hs:aA5 s≠[]) (ha:aAg (aA5 T) (aA5 s) ts=some r) :
  Calls prog 103 #[.pointer (some ⟨B,0,none⟩),.string s] w fun e w'=>e = .returned (.bool true)/\But B w w'/\RdX w' B T r v2 v3 v4 v5 v6:=by
 obtain ⟨hp,t,rfl⟩:=aWb ha hs;have hd:((ba (aA5 s)).toList==s.toList)=true:=by rw [aCu,aCo];simp
 have HP:=aA0 hp;have HH:=aA0 h;clear h hp ha hs;go_enter func103,ntmps103
 go_wp2_with (first
  | (go_at_call 104;refine (aBz HH.out).mono ?_;rintro e w1 ⟨rfl,hb⟩;rw [HP.out];have HH1:=aA0 (HH.out.bel hb);have HB:=aA0 hb;clear hb)
  | (go_at_call 107;refine (aEj HH1.out).mono ?_;rintro e w2 ⟨rfl,hb,hr⟩;have HB2:=aA0 hb;have HR:=aA0 hr;clear hb hr))
 go_ret;exact ⟨rfl,(But.of_bel HB.out).trans HB2.out,HR.out⟩
theorem aBp {w:World} {B:Nat} {T:ByteArray} {ts:List Tok} {v2 v3 v4 v5 v6:Value} (h:RdX w B T ts v2 v3 v4 v5 v6) (s:ByteArray) (ha:aAg (aA5 T) (aA5 s) ts=none) :
  Calls prog 103 #[.pointer (some ⟨B,0,none⟩),.string s] w fun e w'=>e = .returned (.bool false)/\But B w w'/\RdX w' B T ts v2 v3 v4 v5 v6:=by
 have hp:=aWa ha;have hd:((ba (aB8 (aA5 T) ts)).toList==s.toList)=false:=by rw [aCu,aCo];simpa using hp
 have HH:=aA0 h;clear h hp ha;go_enter func103,ntmps103
 go_wp2_with (go_at_call 104;refine (aBz HH.out).mono ?_;rintro e w1 ⟨rfl,hb⟩;have HH1:=aA0 (HH.out.bel hb);have HB:=aA0 hb;clear hb)
 go_ret;exact ⟨rfl,But.of_bel HB.out,HH1.out⟩
theorem aC7 {w:World} {B:Nat} {T:ByteArray} {ts r:List Tok} {v2 v3 v4 v5 v6:Value} (h:RdX w B T ts v2 v3 v4 v5 v6) (s:ByteArray) (hs:aA5 s≠[]) (ha:aAg (aA5 T) (aA5 s) ts=some r) :
  Calls prog 56 #[.pointer (some ⟨B,0,none⟩),.string s] w fun e w'=>(∃ x,e = .returned x)/\But B w w'/\RdX w' B T r v2 v3 v4 v5 v6:=by
 have HH:=aA0 h;have HS:=aA0 hs;have HA:=aA0 ha;clear h ha hs;go_enter func56,ntmps56
 go_wp2_with (go_at_call 103;refine (aC0 HH.out s HS.out HA.out).mono ?_;rintro e w1 ⟨rfl,hb,hr⟩;have HB:=aA0 hb;have HR:=aA0 hr;clear hb hr)
 go_end0
 exact ⟨⟨_,rfl⟩,HB.out,HR.out⟩
theorem aLk (op:Nat) (w:World) (h:op<=100) :
  Calls prog 166 #[.int .i64 (op:Int)] w fun e w'=>e = .returned (.int .i64 (aY0 op:Nat))/\w=w':=by
 go_enter func166,ntmps166;go_wp2
 all_goals (go_ret;refine ⟨aA9 ?_,rfl⟩;simp only [beq_iff_eq,beq_eq_false_iff_ne,ne_eq] at *;unfold aY0;(repeat' split) <;> omega)
def StrAt (w:World) (b o:Nat) (x:Wd):Prop:=w.cell? ⟨b,o,none⟩=some (.string (ba x))
def aTt:=aAc 1 StrAt
theorem aTt.at_ {w:World} {A:Option Addr} {n:Nat} {xs:List Wd} (h:aTt w A n xs) (k:Nat) (hk:k<xs.length) :
  ∃ b o,A=some ⟨b,o,none⟩/\b<w.heap.size/\w.cell? ⟨b,o+k,none⟩=some (.string (ba xs[k])):=by
 obtain ⟨b,o,e,hb,h⟩:=aAc.at_ h k hk;exact ⟨b,o,e,hb,by rw [Nat.mul_one] at h;exact h⟩
theorem bHl {w:Wd} {f j:Nat} {l:List Wd} (hw:w≠[]) (hj:j<l.length) (h1:∀ i (hi:i<j),l[i]≠w) (h2:l[j]=w):aG1 w f l=f+j:=by
 unfold aG1;rw [if_neg hw,List.findIdx?_eq_some_iff_getElem.2 ⟨hj,by simpa using h2,fun i hi=>by simpa using h1 i hi⟩]
theorem bEr {w:Wd} {f:Nat} {l:List Wd} (hw:w≠[]) (h1:∀ i (hi:i<l.length),l[i]≠w):aG1 w f l=0:=by
 unfold aG1
 rw [if_neg hw,List.findIdx?_eq_none_iff.2 (fun x hx=>by
  obtain ⟨i,hi,rfl⟩:=List.getElem_of_mem hx
  simpa using h1 i hi)]
theorem aPp (s:ByteArray) (f:Nat) (A:Option Addr) (c:Nat) (l:List Wd) (w:World) (hf:f<=1000) (hl:l.length<=1000) (h:aTt w A l.length l) :
  Calls prog 182 #[.string s,.int .i64 (f:Int),.slice A l.length c] w fun e w'=>e = .returned (.int .i64 (aG1 (aA5 s) f l:Nat))/\w=w':=by
 have H:=aA0 h;clear h
 by_cases hw:aA5 s=[]
 .have d0:(s.toList==[])=true:=by rw [aCo,hw];rfl
  have HE:Hid (aG1 (aA5 s) f l=0):=by show _=_;unfold aG1;rw [if_pos hw]
  clear hw;go_enter func182,ntmps182;go_wp2;go_ret;exact ⟨aA9 (by rw [HE.out];rfl),rfl⟩
 .have d0:(s.toList==[])=false:=by rw [aCo];simpa using hw
  have HW:=aA0 hw;clear hw;go_enter func182,ntmps182;go_wp2
  go_loopg [7,8,13] l.length (fun m _x _y z wr=>∃ j:Nat,j<=l.length/\m=l.length-j/\Hid (∀ i (hi:i<l.length),i<j->l[i]≠aA5 s)/\z = .int .i64 j/\w=wr)
  case atStart=>exact ⟨0,by omega,rfl,fun i hi h=>by omega,rfl,rfl⟩
  case round =>
   obtain ⟨j,hj,rfl,HK,rfl,rfl⟩:=hrel
   by_cases hlt:j<l.length
   .have hd0:decide (j<l.length)=true:=by simpa using hlt
    obtain ⟨b,o,rfl,hb,hc⟩:=H.out.at_ j hlt
    by_cases he:l[j]=aA5 s
    .have HG:=aA0 (bHl (f:=f) HW.out hlt (fun i hi=>HK.out i (by omega) hi) he)
     rw [he] at hc;have hd:((ba (aA5 s)).toList==s.toList)=true:=by rw [aCu,aCo];simp
     clear he;go_wp2;go_ret;refine ⟨aA9 ?_,rfl⟩
     rw [HG.out];have:IntKind.i64.wrap ((f:Int)+(j:Int))=((f+j:Nat):Int):=by rw [IntWalk.i64_in _ (by omega)];omega
     first | exact this | (try omega)
    .have HG:Hid (∀ i (hi:i<l.length),i<j+1->l[i]≠aA5 s):=by
      intro i hi h
      by_cases hij:i=j
      .subst hij;exact he
      .exact HK.out i hi (by omega)
     have hd:((ba l[j]).toList==s.toList)=false:=by rw [aCu,aCo];simpa using he
     clear he;go_wp2
     go_roundg (l.length-(j+1))
     case rel=>exact ⟨j+1,by omega,rfl,HG,by go_num,rfl⟩
     case measure=>omega
   .have hd0:decide (j<l.length)=false:=by simpa using hlt
    have HG:=aA0 (bEr (f:=f) HW.out (fun i hi=>HK.out i hi (by omega)))
    go_wp2;go_ret;exact ⟨aA9 (by rw [HG.out];rfl),rfl⟩
def bNn:Array Value:=#[.string (ba [42]),.string (ba [47]),.string (ba [37]),.string (ba [43]),.string (ba [45]),.string (ba [61,61]),.string (ba [33,61]),.string (ba [60]),.string (ba [60,61]),.string (ba [62]),.string (ba [62,61]),.string (ba [38,38]),.string (ba [124,124])]
theorem bKx (k:Nat) (h:k<13):bNn[k]?=some (.string (ba (binL.getD k []))):=by
 match k,h with
 | 0,_=>rfl
 | 1,_=>rfl
 | 2,_=>rfl
 | 3,_=>rfl
 | 4,_=>rfl
 | 5,_=>rfl
 | 6,_=>rfl
 | 7,_=>rfl
 | 8,_=>rfl
 | 9,_=>rfl
 | 10,_=>rfl
 | 11,_=>rfl
 | 12,_=>rfl
 | k+13,h=>omega
theorem bKy (w:World):Calls prog 183 #[] w fun e w'=>(∃ A,e = .returned (.slice A 13 13)/\aTt w' A 13 binL)/\Bel w w':=by
 go_enter func183,ntmps183;go_wp2;go_ret;have hb:Blk (w.alloc (.cells bNn 9)) w.heap.size bNn 9:=Blk.new w _ _;refine ⟨⟨_,rfl,rfl,fun i x hx=>?_⟩,(Bel.refl w).alloc _⟩
 have hi:i<13:=(List.getElem?_eq_some_iff.1 hx).1;refine ⟨w.heap.size,0,rfl,by simp,?_⟩
 have:=hb.cell (0+i*1) (v := .string (ba (binL.getD i []))) (by rw [show 0+i*1=i by omega];exact bKx i hi)
 rw [show binL.getD i []=x by simp [List.getD_eq_getElem?_getD,hx]] at this
 exact this
def bNj:Array Value:=#[.string (ba [97,108,108]),.string (ba [115,111,109,101]),.string (ba [99,111,117,110,116]),.string (ba [102,105,114,115,116]),.string (ba [109,105,110]),.string (ba [109,97,120]),.string (ba [115,117,109]),.string (ba [109,101,120]),.string (ba [115,101,99,111,110,100]),.string (ba [104,101,97,100])]
theorem bKp (k:Nat) (h:k<10):bNj[k]?=some (.string (ba (aggL.getD k []))):=by
 match k,h with
 | 0,_=>rfl
 | 1,_=>rfl
 | 2,_=>rfl
 | 3,_=>rfl
 | 4,_=>rfl
 | 5,_=>rfl
 | 6,_=>rfl
 | 7,_=>rfl
 | 8,_=>rfl
 | 9,_=>rfl
 | k+10,h=>omega
theorem bKq (w:World):Calls prog 201 #[] w fun e w'=>(∃ A,e = .returned (.slice A 10 10)/\aTt w' A 10 aggL)/\Bel w w':=by
 go_enter func201,ntmps201;go_wp2;go_ret;have hb:Blk (w.alloc (.cells bNj 9)) w.heap.size bNj 9:=Blk.new w _ _;refine ⟨⟨_,rfl,rfl,fun i x hx=>?_⟩,(Bel.refl w).alloc _⟩
 have hi:i<10:=(List.getElem?_eq_some_iff.1 hx).1;refine ⟨w.heap.size,0,rfl,by simp,?_⟩
 have:=hb.cell (0+i*1) (v := .string (ba (aggL.getD i []))) (by rw [show 0+i*1=i by omega];exact bKp i hi)
 rw [show aggL.getD i []=x by simp [List.getD_eq_getElem?_getD,hx]] at this
 exact this
def bNq:Array Value:=#[.string (ba [116,114,117,101]),.string (ba [102,97,108,115,101]),.string (ba [110,111,110,101]),.string (ba []),.string (ba [110]),.string (ba [105,100,115]),.string (ba [105,100]),.string (ba [100,101,103]),.string (ba [114,111,111,116])]
theorem bL7 (k:Nat) (h:k<9):bNq[k]?=some (.string (ba (conL.getD k []))):=by
 match k,h with
 | 0,_=>rfl
 | 1,_=>rfl
 | 2,_=>rfl
 | 3,_=>rfl
 | 4,_=>rfl
 | 5,_=>rfl
 | 6,_=>rfl
 | 7,_=>rfl
 | 8,_=>rfl
 | k+9,h=>omega
theorem bL8 (w:World):Calls prog 200 #[] w fun e w'=>(∃ A,e = .returned (.slice A 9 9)/\aTt w' A 9 conL)/\Bel w w':=by
 go_enter func200,ntmps200;go_wp2;go_ret;have hb:Blk (w.alloc (.cells bNq 9)) w.heap.size bNq 9:=Blk.new w _ _;refine ⟨⟨_,rfl,rfl,fun i x hx=>?_⟩,(Bel.refl w).alloc _⟩
 have hi:i<9:=(List.getElem?_eq_some_iff.1 hx).1;refine ⟨w.heap.size,0,rfl,by simp,?_⟩
 have:=hb.cell (0+i*1) (v := .string (ba (conL.getD i []))) (by rw [show 0+i*1=i by omega];exact bL7 i hi)
 rw [show conL.getD i []=x by simp [List.getD_eq_getElem?_getD,hx]] at this
 exact this
def bNt:Array Value:=#[.string (ba [105,100]),.string (ba [100,101,103]),.string (ba [114,111,111,116]),.string (ba [119,101,105,103,104,116]),.string (ba [98,97,99,107])]
theorem bLg (k:Nat) (h:k<5):bNt[k]?=some (.string (ba (fldL.getD k []))):=by
 match k,h with
 | 0,_=>rfl
 | 1,_=>rfl
 | 2,_=>rfl
 | 3,_=>rfl
 | 4,_=>rfl
 | k+5,h=>omega
theorem bLh (w:World):Calls prog 203 #[] w fun e w'=>(∃ A,e = .returned (.slice A 5 5)/\aTt w' A 5 fldL)/\Bel w w':=by
 go_enter func203,ntmps203;go_wp2;go_ret;have hb:Blk (w.alloc (.cells bNt 9)) w.heap.size bNt 9:=Blk.new w _ _;refine ⟨⟨_,rfl,rfl,fun i x hx=>?_⟩,(Bel.refl w).alloc _⟩
 have hi:i<5:=(List.getElem?_eq_some_iff.1 hx).1;refine ⟨w.heap.size,0,rfl,by simp,?_⟩
 have:=hb.cell (0+i*1) (v := .string (ba (fldL.getD i []))) (by rw [show 0+i*1=i by omega];exact bLg i hi)
 rw [show fldL.getD i []=x by simp [List.getD_eq_getElem?_getD,hx]] at this
 exact this
theorem aM6 (s:ByteArray) (w:World):Calls prog 165 #[.string s] w fun e w'=>e = .returned (.int .i64 (aS5 (aA5 s):Nat))/\Bel w w':=by
 go_enter func165,ntmps165
 go_wp2_with (first
  | (go_at_call 183;refine (bKy _).mono ?_;rintro e w1 ⟨⟨A,rfl,hA⟩,hb⟩;have HA:=aA0 hA;clear hA)
  | (go_at_call 182;refine (aPp s 30 A 13 binL _ (by omega) (by decide) HA.out).mono ?_;rintro e w2 ⟨rfl,rfl⟩))
 go_ret;exact ⟨rfl,hb⟩
theorem aWd (s:ByteArray) (w:World):Calls prog 193 #[.string s] w fun e w'=>e = .returned (.int .i64 (bDy (aA5 s):Nat))/\Bel w w':=by
 go_enter func193,ntmps193
 go_wp2_with (first
  | (go_at_call 201;refine (bKq _).mono ?_;rintro e w1 ⟨⟨A,rfl,hA⟩,hb⟩;have HA:=aA0 hA;clear hA)
  | (go_at_call 182;refine (aPp s 20 A 10 aggL _ (by omega) (by decide) HA.out).mono ?_;rintro e w2 ⟨rfl,rfl⟩))
 go_ret;exact ⟨rfl,hb⟩
theorem aQe (s:ByteArray) (w:World):Calls prog 192 #[.string s] w fun e w'=>e = .returned (.int .i64 (bEb (aA5 s):Nat))/\Bel w w':=by
 go_enter func192,ntmps192
 go_wp2_with (first
  | (go_at_call 200;refine (bL8 _).mono ?_;rintro e w1 ⟨⟨A,rfl,hA⟩,hb⟩;have HA:=aA0 hA;clear hA)
  | (go_at_call 182;refine (aPp s 2 A 9 conL _ (by omega) (by decide) HA.out).mono ?_;rintro e w2 ⟨rfl,rfl⟩))
 go_ret;exact ⟨rfl,hb⟩
theorem aXg (s:ByteArray) (w:World):Calls prog 199 #[.string s] w fun e w'=>e = .returned (.int .i64 (bAb (aA5 s):Nat))/\Bel w w':=by
 go_enter func199,ntmps199
 go_wp2_with (first
  | (go_at_call 203;refine (bLh _).mono ?_;rintro e w1 ⟨⟨A,rfl,hA⟩,hb⟩;have HA:=aA0 hA;clear hA)
  | (go_at_call 182;refine (aPp s 13 A 5 fldL _ (by omega) (by decide) HA.out).mono ?_;rintro e w2 ⟨rfl,rfl⟩))
 go_ret;exact ⟨rfl,hb⟩
theorem bLt (l:Wd):aJl (ba l)=bAu l:=by
 unfold aJl bAu aGt;rw [aCu];have e1:(ba l).size=l.length:=by rw [<- aAv,aCi]
 have e2:(ba l).data.toList=l:=rfl
 have e3:(wordsL.any fun x=>l==x)=wordsL.contains l:=by
  rw [Bool.eq_iff_iff,List.any_eq_true,List.contains_iff_mem];constructor
  .rintro ⟨x,hx,h⟩
   rw [beq_iff_eq] at h;rw [h];exact hx
  .intro h;exact ⟨l,h,by simp⟩
 rw [e1,e2,e3,aNz,Bool.decide_and];rw [show l.all aF0=l.all aEc by congr 1;funext c;rw [aSu]]
 rfl
def bBy (B:Nat) (w:World) (b o:Nat) (x:Wd):Prop:=b≠B/\w.cell? ⟨b,o,none⟩=some (.string (ba x))
def NmR (B:Nat) (w:World) (v:Value) (N:List Wd):Prop:=∃ A c,v = .slice A N.length c/\aAc 1 (bBy B) w A N.length N
theorem NmR.but {B:Nat} {w w':World} {v:Value} {N:List Wd} (h:NmR B w v N) (k:But B w w'):NmR B w' v N:=by
 obtain ⟨A,c,e,h1,h2⟩:=h;refine ⟨A,c,e,h1,fun i x hx=>?_⟩
 obtain ⟨b,o,e,hb,h3,h4⟩:=h2 i x hx;refine ⟨b,o,e,Nat.lt_of_lt_of_le hb k.size,h3,?_⟩
 unfold World.cell? at h4 ⊢;rw [k.block b hb h3];exact h4
theorem NmR.strs {B:Nat} {w:World} {A:Option Addr} {c n:Nat} {N:List Wd} (h:aAc 1 (bBy B) w A n N):aTt w A n N :=
 ⟨h.1,fun i x hx=>by obtain ⟨b,o,e,hb,_,h4⟩:=h.2 i x hx;exact ⟨b,o,e,hb,h4⟩⟩
def bNx (N:List Wd) (x:Wd):Int:=match N.findIdx? (·==x) with | some i=>(i:Int) | none => -1
theorem bLn {w:Wd} {j:Nat} {l:List Wd} (hj:j<l.length) (h1:∀ i (hi:i<j),l[i]≠w) (h2:l[j]=w):bNx l w=(j:Int):=by
 unfold bNx;rw [List.findIdx?_eq_some_iff_getElem.2 ⟨hj,by simpa using h2,fun i hi=>by simpa using h1 i hi⟩]
theorem bHv {w:Wd} {l:List Wd} (h1:∀ i (hi:i<l.length),l[i]≠w):bNx l w = -1:=by
 unfold bNx
 rw [List.findIdx?_eq_none_iff.2 (fun x hx=>by
  obtain ⟨i,hi,rfl⟩:=List.getElem_of_mem hx
  simpa using h1 i hi)]
theorem bF3 (s:ByteArray) (A:Option Addr) (c:Nat) (l:List Wd) (w:World) (hl:l.length<=1000) (h:aTt w A l.length l) :
  Calls prog 143 #[.slice A l.length c,.string s] w fun e w'=>e = .returned (.int .i64 (bNx l (aA5 s)))/\w=w':=by
 have H:=aA0 h;clear h;go_enter func143,ntmps143;go_wp2
 go_loopg [5,8] l.length (fun m _x z wr=>∃ j:Nat,j<=l.length/\m=l.length-j/\Hid (∀ i (hi:i<l.length),i<j->l[i]≠aA5 s)/\z = .int .i64 j/\w=wr)
 case atStart=>exact ⟨0,by omega,rfl,fun i hi h=>by omega,rfl,rfl⟩
 case round =>
  obtain ⟨j,hj,rfl,HK,rfl,rfl⟩:=hrel
  by_cases hlt:j<l.length
  .have hd0:decide (j<l.length)=true:=by simpa using hlt
   obtain ⟨b,o,rfl,hb,hc⟩:=H.out.at_ j hlt
   by_cases he:l[j]=aA5 s
   .have HG:=aA0 (bLn hlt (fun i hi=>HK.out i (by omega) hi) he)
    rw [he] at hc;have hd:(s.toList==(ba (aA5 s)).toList)=true:=by rw [aCu,aCo];simp
    clear he;go_wp2;go_ret;exact ⟨aA9 (by rw [HG.out]),rfl⟩
   .have HG:Hid (∀ i (hi:i<l.length),i<j+1->l[i]≠aA5 s):=by
     intro i hi h
     by_cases hij:i=j
     .subst hij;exact he
     .exact HK.out i hi (by omega)
    have hd:(s.toList==(ba l[j]).toList)=false:=by rw [aCu,aCo];simpa using fun h=>he h.symm
    clear he;go_wp2
    go_roundg (l.length-(j+1))
    case rel=>exact ⟨j+1,by omega,rfl,HG,by go_num,rfl⟩
    case measure=>omega
  .have hd0:decide (j<l.length)=false:=by simpa using hlt
   have HG:=aA0 (bHv (fun i hi=>HK.out i hi (by omega)))
   go_wp2;go_ret;exact ⟨aA9 (by rw [HG.out]),rfl⟩
theorem aYb (l:Wd) (w:World) (hl:l.length<=20000) (b:Bool) (hb:bAu l=b):Calls prog 106 #[.string (ba l)] w fun e w'=>e = .returned (.bool b)/\w=w':=by
 have h:=aGc (ba l) w (by rw [<- aAv,aCi];omega)
 rw [bLt,hb] at h;exact h
theorem aYp {T:ByteArray} {ts:List Tok}:(aB8 (aA5 T) ts).length<=T.size:=by
 cases ts with
 | nil=>simp [aB8]
 | cons t r =>
  show ((((aA5 T).drop t.at_).take (t.en-t.at_)).length)<=_
  rw [List.length_take,List.length_drop,aAv];omega
theorem aS1 {T:Wd} {N:List Wd} {ts r:List Tok} {x:Nat} (h:aFb T N ts=some (x,r)):aIw ts=1/\bAu (aB8 T ts)=true/\bNx N (aB8 T ts)=(x:Int)/\x<N.length/\∃ t,ts=t :: r:=by
 unfold aFb at h;split at h
 .rename_i hc
  split at h
  .rename_i i hi
   injection h with h
   injection h with h1 h2
   subst h1;refine ⟨hc.1,hc.2,by unfold bNx;rw [hi],?_,?_⟩
   .obtain ⟨h3,_⟩:=List.findIdx?_eq_some_iff_getElem.1 hi
    exact h3
   .cases ts with
    | nil=>exact absurd hc.1 (by simp [aIw])
    | cons t r'=>exact ⟨t,by rw [<- h2];rfl⟩
  .cases h
 .cases h
theorem aK2 {w:World} {B:Nat} {T:ByteArray} {ts r:List Tok} {v2 v3 v4 v5 v6:Value} {N:List Wd} {x:Nat} (h:RdX w B T ts v2 v3 v4 v5 v6) (hN:NmR B w v2 N) (hl:N.length<=1000) (hv:aFb (aA5 T) N ts=some (x,r)) :
  Calls prog 111 #[.pointer (some ⟨B,0,none⟩)] w fun e w'=>e = .returned (.int .i64 (x:Int))/\But B w w'/\RdX w' B T r v2 v3 v4 v5 v6:=by
 obtain ⟨hk,hn,hx,hxN,t,rfl⟩:=aS1 hv;obtain ⟨AN,cN,rfl,hNR⟩:=hN;have HNR:=aA0 hNR;have HK:=aA0 hk;have HNM:=aA0 hn;have HX:=aA0 hx;have HH:=aA0 h;have HPL:=aA0 (aYp (T:=T) (ts:=t :: r));have HBIG:Hid (T.size<=16384):=by obtain ⟨_,_,h⟩:=h;exact h.big
 clear hv hNR hk hn hx h;have dx:decide ((x:Int)<0)=false:=by simp
 go_enter func111,ntmps111
 go_wp2_with (first
  | (go_at_call 104;refine (aBz HH.out).mono ?_;rintro e w1 ⟨rfl,hb⟩;have HH1:=aA0 (HH.out.bel hb);have HB:=aA0 hb;have HN1:=aA0 (HNR.out.keep (fun _ _ _ _ _ k hb h=>⟨h.1,(k.cell hb).trans h.2⟩) hb);obtain ⟨A1,k1,hr1⟩:=HH1.out;obtain ⟨y0,y1,y2,_⟩:=hr1.cells;have yl:=hr1.lt;clear hb hr1)
  | (go_at_call 105;refine (aFr HH1.out).mono ?_;rintro e w2 ⟨rfl,rfl⟩;rw [HK.out])
  | (go_at_call 106;refine (aYb _ _ (by have:=HPL.out;have:=HBIG.out;omega) true HNM.out).mono ?_;rintro e w2 ⟨rfl,rfl⟩)
  | (go_at_call 143;refine (bF3 (ba (aB8 (aA5 T) (t :: r))) AN cN N _ hl (NmR.strs (c:=0) HN1.out)).mono ?_;rintro e w2 ⟨rfl,rfl⟩;rw [aCi,HX.out])
  | (go_at_call 107;refine (aEj HH1.out).mono ?_;rintro e w2 ⟨rfl,hb,hr⟩;have HB2:=aA0 hb;have HR:=aA0 hr;clear hb hr))
 go_ret;exact ⟨rfl,(But.of_bel HB.out).trans HB2.out,HR.out⟩
def tmC (l:List Term):List Value:=l.flatMap aBo
theorem bGb (l m:List Term):tmC (l++m)=tmC l++tmC m:=by simp [tmC]
def TmO (N:Nat) (w:World) (v:Value) (l:List Term):Prop:=∃ A c,v = .slice A l.length c/\w.ownsRow N 235 2 v l.length (tmC l)
theorem aFk (op arg:Nat) (w:World):Calls prog 167 #[.int .i64 (op:Int),.int .i64 (arg:Int)] w fun e w'=>(∃ v,e = .returned v/\TmO w.heap.size w' v (aKr op arg))/\Bel w w':=by
 go_enter func167,ntmps167;go_wp2;go_ret;refine ⟨⟨_,rfl,some ⟨w.heap.size,0,none⟩,1,rfl,?_⟩,(Bel.refl w).alloc _⟩
 refine ⟨rfl,.inr ⟨w.heap.size,1,#[.int .i64 (op:Int),.int .i64 (arg:Int)],rfl,Nat.le_refl _,aAx _ _,Nat.le_refl _,by unfold maxLen;decide,rfl,rfl⟩⟩
theorem aLn {B N:Nat} {w w':World} {e:TypeId} {size n:Nat} {v:Value} {xs:List Value} (h:w.ownsRow N e size v n xs) (k:But B w w') (hB:B<N):w'.ownsRow N e size v n xs:=by
 refine ⟨h.1,?_⟩
 rcases h.2 with hn | ⟨g,cap,cur,hv,hb,hg,hr⟩
 .exact .inl hn
 .refine .inr ⟨g,cap,cur,hv,hb,?_,hr⟩
  rw [k.block g (lt_of_block hg) (by omega)];exact hg
theorem TmO.mk {N:Nat} {w:World} {A:Option Addr} {c:Nat} {l:List Term} (h:w.ownsRow N 235 2 (.slice A l.length c) l.length (tmC l)):TmO N w (.slice A l.length c) l:=⟨A,c,rfl,h⟩
theorem TmO.but {B N:Nat} {w w':World} {v:Value} {l:List Term} (h:TmO N w v l) (k:But B w w') (hB:B<N):TmO N w' v l:=by
 obtain ⟨A,c,e,h⟩:=h;exact ⟨A,c,e,aLn h k hB⟩
theorem TmO.bel {N:Nat} {w w':World} {v:Value} {l:List Term} (h:TmO N w v l) (k:Bel w w'):TmO N w' v l:=by
 obtain ⟨A,c,e,h⟩:=h;exact ⟨A,c,e,k.owns h⟩
theorem TmO.low {N M:Nat} {w:World} {v:Value} {l:List Term} (h:TmO N w v l) (hM:M<=N):TmO M w v l:=by
 obtain ⟨A,c,e,h⟩:=h;exact ⟨A,c,e,aAu h hM⟩
theorem TmO.row {N:Nat} {w:World} {v:Value} {l:List Term} (h:TmO N w v l) {b o:Nat} (hc:w.cell? ⟨b,o,none⟩=some v):aG7 2 aGy w b o l:=by
 obtain ⟨A,c,rfl,h⟩:=h;obtain ⟨c1,c2⟩:=aCd h;exact ⟨A,c,hc,aRg h,c1,c2⟩
theorem bMr:(prog.info? 235).map (fun i=>(i.zero,i.size,i.bytes))=some (some (.agg #[.int .i64 0,.int .i64 0]),2,16):=by kernel_rfl
def aZm (op:Nat) (L:List (List Term)) (k:Nat):List Term:=aKr op 0++(L.take k).flatten
theorem aW9 {op:Nat} {L:List (List Term)} {k:Nat} (h:k<L.length):aZm op L (k+1)=aZm op L k++L[k]:=by
 unfold aZm;rw [List.take_succ_eq_append_getElem h,List.flatten_append,List.append_assoc];simp
theorem bNf {op:Nat} {L:List (List Term)} {k:Nat}:(aZm op L k).length<=(aW5 op L).length:=by
 unfold aZm aW5;rw [List.length_append,List.length_append];have:L.flatten=(L.take k).flatten++(L.drop k).flatten:=by rw [<- List.flatten_append,List.take_append_drop]
 rw [this,List.length_append];omega
theorem aW8 (op:Nat) (L:List (List Term)):aZm op L L.length=aW5 op L:=by unfold aZm aW5;rw [List.take_length]
theorem aE8 (op:Nat) (OA:Option Addr) (oc:Nat) (L:List (List Term)) (w:World) (h:aAc 1 (aG7 2 aGy) w OA L.length L) (hl:L.length<=10) (hn:(aW5 op L).length<=100000) :
  Calls prog 142 #[.int .i64 (op:Int),.slice OA L.length oc] w fun e w'=>(∃ v,e = .returned v/\TmO w.heap.size w' v (aW5 op L))/\Bel w w':=by
 have H:=aA0 (fun w' (k:Bel w w')=>aAc.keep (aG7.keeps aGy.keeps) h k);obtain ⟨j0,hj0,hj1,hj2,hj3⟩:=aBq bMr;clear h;go_enter func142,ntmps142
 go_wp2_with (go_at_call 167;refine (aFk op 0 _).mono ?_;rintro e w1 ⟨⟨v,rfl,A0,c0,rfl,hO⟩,hb⟩;have HO:=aA0 hO;have HB:=aA0 hb;clear hO hb)
 go_loopg [5,7,12] L.length (fun m av _x z wr=>∃ (k:Nat) (A:Option Addr) (c:Nat),k<=L.length/\m=L.length-k/\av = .slice A (aZm op L k).length c/\z = .int .i64 k/\Hid (wr.ownsRow w.heap.size 235 2 (.slice A (aZm op L k).length c) (aZm op L k).length (tmC (aZm op L k)))/\Bel w wr)
 case atStart=>exact ⟨0,A0,c0,by omega,rfl,by simp [aZm],rfl,by simpa [aZm] using HO,HB.out⟩
 case round =>
  obtain ⟨k,A,c,hk,rfl,rfl,rfl,HOk,hbel⟩:=hrel
  by_cases hlt:k<L.length
  .have hd0:decide (k<L.length)=true:=by simpa using hlt
   obtain ⟨b,o,R,rc,rfl,hb,hc,hR,hr1,hr2⟩:=RowsAt.at_ (H.out wr hbel) k hlt;have HR:=aA0 (aCa.cells hR);have hle:=bNf (op:=op) (L:=L) (k:=k+1);rw [aW9 hlt,List.length_append] at hle;have HS:=aA0 (aW9 (op:=op) hlt);clear hR;have hbs:=hbel.size;generalize hX:aZm op L k=X at *
   go_wp2_with (at_builtin;go_loud (refine aIm _ rfl (.tmp 16) (.tmp 17) 134 rfl w.heap.size 235 j0 (.agg #[.int .i64 0,.int .i64 0]) 2 16 underlying134 hj0 hj1 hj2 hj3 rfl (by decide) A X.length c (tmC X) (by simp [Act.eval]) HOk.out R L[k].length rc (tmC L[k]) (by simp [Act.eval]) HR.out (aW0 _) (by unfold maxLen;omega) (by omega) hbs ?_;intro A' c' w2 hown2 hgr2 _;have hb2:Bel w w2:=hbel.push HOk.out hgr2;have HO2:=aA0 hown2;clear hown2 hgr2))
   go_roundg (L.length-(k+1))
   case rel =>
    refine ⟨k+1,A',c',by omega,rfl,?_,by go_num,?_,hb2⟩
    .rw [HS.out];simp
    .show w2.ownsRow _ _ _ _ _ _
     rw [HS.out,bGb,List.length_append];exact HO2.out
   case measure=>omega
  .have hd0:decide (k<L.length)=false:=by simpa using hlt
   obtain rfl:k=L.length:=by omega
   go_wp2;go_ret;have hO:=HOk.out;refine ⟨⟨.slice A (aZm op L L.length).length c,rfl,A,c,by rw [aW8],?_⟩,hbel⟩
   rw [aW8] at hO ⊢;exact hO
def aTs (B:Nat) (T:ByteArray) (r:List Tok) (l:List Term) (v2 v3 v4 v5 v6:Value) (w:World) (e:Ending) (w':World):Prop :=
 (∃ v,e = .returned v/\TmO w.heap.size w' v l)/\But B w w'/\RdX w' B T r v2 v3 v4 v5 v6
structure ReadOK (T:ByteArray) (N:List Wd) (n:Nat):Prop where
 choice:∀ {w:World} {B:Nat} {ts r:List Tok} {l:List Term} {v2 v3 v4 v5 v6:Value},RdX w B T ts v2 v3 v4 v5 v6->NmR B w v2 N->aC9 (aA5 T) N n .choice ts=some (l,r)->l.length<=1000 ->
  Calls prog 110 #[.pointer (some ⟨B,0,none⟩)] w (aTs B T r l v2 v3 v4 v5 v6 w)
 bin:∀ {w:World} {B:Nat} {ts r:List Tok} {l:List Term} {v2 v3 v4 v5 v6:Value} {lv:Nat},lv<=6->RdX w B T ts v2 v3 v4 v5 v6->NmR B w v2 N->aC9 (aA5 T) N n (.bin lv) ts=some (l,r)->l.length<=1000 ->
  Calls prog 141 #[.pointer (some ⟨B,0,none⟩),.int .i64 (lv:Int)] w (aTs B T r l v2 v3 v4 v5 v6 w)
 unary:∀ {w:World} {B:Nat} {ts r:List Tok} {l:List Term} {v2 v3 v4 v5 v6:Value},RdX w B T ts v2 v3 v4 v5 v6->NmR B w v2 N->aC9 (aA5 T) N n .unary ts=some (l,r)->l.length<=1000 ->
  Calls prog 164 #[.pointer (some ⟨B,0,none⟩)] w (aTs B T r l v2 v3 v4 v5 v6 w)
 primary:∀ {w:World} {B:Nat} {ts r:List Tok} {l:List Term} {v2 v3 v4 v5 v6:Value},RdX w B T ts v2 v3 v4 v5 v6->NmR B w v2 N->aC9 (aA5 T) N n .primary ts=some (l,r)->l.length<=1000 ->
  Calls prog 181 #[.pointer (some ⟨B,0,none⟩)] w (aTs B T r l v2 v3 v4 v5 v6 w)
theorem aH6 (op:Nat) (L:List (List Term)):(aW5 op L).length=1+L.flatten.length:=by unfold aW5 aKr;simp;omega
theorem aUw {T:Wd} {N:List Wd}:∀ {n lv:Nat} {a l:List Term} {ts r:List Tok},aC9 T N n (.more lv a) ts=some (l,r)->a.length<=l.length
 | 0,lv,a,l,ts,r,h=>by simp [aC9] at h
 | n+1,lv,a,l,ts,r,h=>by
  rw [aC9] at h;split at h
  .injection h with h;injection h with h1 h2;rw [h1];exact Nat.le_refl _
  .rw [Option.bind_eq_some_iff] at h
   obtain ⟨⟨b,t1⟩,_,h⟩:=h;dsimp only at h;split at h
   .injection h with h;injection h with h1 h2;rw [<- h1,aH6];simp;omega
   .have:=aUw h
    rw [aH6] at this;simp at this
    omega
theorem hs1 {w:World} {N:Nat} {v:Value} {l:List Term} {t:TypeId} (h:TmO N w v l):aAc 1 (aG7 2 aGy) (w.alloc (.cells #[v] t)) (some ⟨w.heap.size,0,none⟩) 1 [l]:=by
 have hb:Blk (w.alloc (.cells #[v] t)) w.heap.size #[v] t:=Blk.new w _ _;refine ⟨rfl,fun i x hx=>⟨w.heap.size,0,rfl,by simp,?_⟩⟩
 match i,hx with
 | 0,hx =>
  simp at hx;subst hx
  exact (h.bel ((Bel.refl w).alloc _)).row (hb.cell 0 rfl)
 | i+1,hx=>simp at hx
theorem hs2 {w:World} {N M:Nat} {u v:Value} {k l:List Term} {t:TypeId} (h0:TmO M w u k) (h:TmO N w v l):aAc 1 (aG7 2 aGy) (w.alloc (.cells #[u,v] t)) (some ⟨w.heap.size,0,none⟩) 2 [k,l]:=by
 have hb:Blk (w.alloc (.cells #[u,v] t)) w.heap.size #[u,v] t:=Blk.new w _ _;refine ⟨rfl,fun i x hx=>⟨w.heap.size,0,rfl,by simp,?_⟩⟩
 match i,hx with
 | 0,hx =>
  simp at hx;subst hx
  exact (h0.bel ((Bel.refl w).alloc _)).row (hb.cell 0 rfl)
 | 1,hx =>
  simp at hx;subst hx
  exact (h.bel ((Bel.refl w).alloc _)).row (hb.cell 1 rfl)
 | i+2,hx=>simp at hx
theorem hs3 {w:World} {N M K:Nat} {x u v:Value} {j k l:List Term} {t:TypeId} (h1:TmO K w x j) (h0:TmO M w u k) (h:TmO N w v l):aAc 1 (aG7 2 aGy) (w.alloc (.cells #[x,u,v] t)) (some ⟨w.heap.size,0,none⟩) 3 [j,k,l]:=by
 have hb:Blk (w.alloc (.cells #[x,u,v] t)) w.heap.size #[x,u,v] t:=Blk.new w _ _;refine ⟨rfl,fun i y hx=>⟨w.heap.size,0,rfl,by simp,?_⟩⟩
 match i,hx with
 | 0,hx =>
  simp at hx;subst hx
  exact (h1.bel ((Bel.refl w).alloc _)).row (hb.cell 0 rfl)
 | 1,hx =>
  simp at hx;subst hx
  exact (h0.bel ((Bel.refl w).alloc _)).row (hb.cell 1 rfl)
 | 2,hx =>
  simp at hx;subst hx
  exact (h.bel ((Bel.refl w).alloc _)).row (hb.cell 2 rfl)
 | i+3,hx=>simp at hx
theorem aVh {T:ByteArray} {N:List Wd} {n:Nat} (IH:ReadOK T N n) {w:World} {B:Nat} {ts r:List Tok} {l:List Term} {v2 v3 v4 v5 v6:Value} (h:RdX w B T ts v2 v3 v4 v5 v6) (hN:NmR B w v2 N) (hr:aC9 (aA5 T) N (n+1) .choice ts=some (l,r)) (hl:l.length<=1000) :
  Calls prog 110 #[.pointer (some ⟨B,0,none⟩)] w (aTs B T r l v2 v3 v4 v5 v6 w):=by
 have hB:B<w.heap.size:=by obtain ⟨_,_,h⟩:=h;exact h.lt
 rw [aC9,Option.bind_eq_some_iff] at hr;obtain ⟨⟨c,t1⟩,hc,hr⟩:=hr;dsimp only at hr;have HH:=aA0 h;have HN:=aA0 hN;have HC:=aA0 hc;have HIH:=aA0 IH;clear h hN hc IH;cases ha:aAg (aA5 T) [63] t1 with
 | none =>
  rw [ha] at hr;injection hr with hr
  injection hr with hr1 hr2
  subst hr1;subst hr2;have HA:=aA0 ha;clear ha;go_enter func110,ntmps110
  go_wp2_with (first
   | (go_at_call 141;refine (HIH.out.bin (lv:=1) (by omega) HH.out HN.out HC.out hl).mono ?_;rintro e w1 ⟨⟨_,rfl,Ac,cc,rfl,hv⟩,hb,hx⟩;have HV:=aA0 (TmO.mk hv);have HB:=aA0 hb;have HX:=aA0 hx;clear hv hb hx)
   | (go_at_call 103;refine (aBp HX.out { data:=#[63] } HA.out).mono ?_;rintro e w2 ⟨rfl,hb,hx⟩;have HB2:=aA0 hb;have HX2:=aA0 hx;clear hb hx))
  go_ret;exact ⟨⟨_,rfl,HV.out.but HB2.out hB⟩,HB.out.trans HB2.out,HX2.out⟩
 | some t2 =>
  rw [ha] at hr;dsimp only at hr;rw [Option.bind_eq_some_iff] at hr;obtain ⟨⟨y,t3⟩,hy,hr⟩:=hr;dsimp only at hr;rw [Option.bind_eq_some_iff] at hr;obtain ⟨t4,hco,hr⟩:=hr;rw [Option.bind_eq_some_iff] at hr;obtain ⟨⟨z,t5⟩,hz,hr⟩:=hr;injection hr with hr
  injection hr with hr1 hr2
  subst hr1;subst hr2;have hll:=hl;rw [aH6] at hll;simp at hll
  have HA:=aA0 ha;have HY:=aA0 hy;have HCO:=aA0 hco;have HZ:=aA0 hz;clear ha hy hco hz;go_enter func110,ntmps110
  go_wp2_with (first
   | (go_at_call 141;refine (HIH.out.bin (lv:=1) (by omega) HH.out HN.out HC.out (by omega)).mono ?_;rintro e w1 ⟨⟨_,rfl,Ac,cc,rfl,hv⟩,hb,hx⟩;have HV:=aA0 (TmO.mk hv);have HB:=aA0 hb;have HX:=aA0 hx;clear hv hb hx)
   | (go_at_call 103;refine (aC0 HX.out { data:=#[63] } (by decide) HA.out).mono ?_;rintro e w2 ⟨rfl,hb,hx⟩;have HV2:=aA0 (HV.out.but hb hB);have HB2:=aA0 (HB.out.trans hb);have HN2:=aA0 (HN.out.but HB2.out);have HX2:=aA0 hx;have hB2:=Nat.lt_of_lt_of_le hB HB2.out.size;clear hb hx)
   | (go_at_call 110;refine (HIH.out.choice HX2.out HN2.out HY.out (by omega)).mono ?_;rintro e w3 ⟨⟨_,rfl,Ay,cy,rfl,hv⟩,hb,hx⟩;have HV3:=aA0 (HV2.out.but hb hB);have HY3:=aA0 (TmO.mk hv);have HB3:=aA0 (HB2.out.trans hb);have HX3:=aA0 hx;clear hv hb hx)
   | (go_at_call 56;refine (aC7 HX3.out { data:=#[58] } (by decide) HCO.out).mono ?_;rintro e w4 ⟨⟨x,rfl⟩,hb,hx⟩;have HV4:=aA0 (HV3.out.but hb hB);have HY4:=aA0 (HY3.out.but hb hB2);have HB4:=aA0 (HB3.out.trans hb);have HN4:=aA0 (HN.out.but HB4.out);have HX4:=aA0 hx;have hB4:=Nat.lt_of_lt_of_le hB HB4.out.size;clear hb hx)
   | (go_at_call 110;refine (HIH.out.choice HX4.out HN4.out HZ.out (by omega)).mono ?_;rintro e w5 ⟨⟨_,rfl,Az,cz,rfl,hv⟩,hb,hx⟩;have HS:=aA0 (hs3 (t:=134) (HV4.out.but hb hB) (HY4.out.but hb hB2) (TmO.mk hv));have HB5:=aA0 (HB4.out.trans hb);have HX5:=aA0 hx;clear hv hb hx)
   | (go_at_call 142;refine (aE8 43 _ 3 [c,y,z] _ HS.out (by simp) (by omega)).mono ?_;rintro e w6 ⟨⟨v,rfl,hv⟩,hb⟩;have HV6:=aA0 hv;have HB6:=aA0 (((Bel.refl w5).alloc (.cells #[.slice Ac c.length cc,.slice Ay y.length cy,.slice Az z.length cz] 134)).trans hb);clear hv hb))
  go_ret;exact ⟨⟨_,rfl,HV6.out.low (by have:=HB5.out.size;simp;omega)⟩,HB5.out.trans (But.of_bel HB6.out),HX5.out.bel HB6.out⟩
theorem bGf {T:ByteArray} {N:List Wd} {n:Nat} (IH:ReadOK T N n) {w:World} {B:Nat} {ts r:List Tok} {l:List Term} {v2 v3 v4 v5 v6:Value} (h:RdX w B T ts v2 v3 v4 v5 v6) (hN:NmR B w v2 N) (hr:aC9 (aA5 T) N (n+1) .unary ts=some (l,r)) (hl:l.length<=1000) :
  Calls prog 164 #[.pointer (some ⟨B,0,none⟩)] w (aTs B T r l v2 v3 v4 v5 v6 w):=by
 have hB:B<w.heap.size:=by obtain ⟨_,_,h⟩:=h;exact h.lt
 rw [aC9] at hr;have HH:=aA0 h;have HN:=aA0 hN;have HIH:=aA0 IH;clear h hN IH;cases ha:aAg (aA5 T) [45] ts with
 | some t1 =>
  rw [ha] at hr;dsimp only at hr;rw [Option.bind_eq_some_iff] at hr;obtain ⟨⟨a,t2⟩,hy,hr⟩:=hr;injection hr with hr
  injection hr with hr1 hr2
  subst hr1;subst hr2;have hll:=hl;rw [aH6] at hll;simp at hll
  have HA:=aA0 ha;have HY:=aA0 hy;clear ha hy;have CHA:=aA0 (fun (w0:World) (hx:RdX w0 B T ts v2 v3 v4 v5 v6)=>aC0 hx { data:=#[45] } (by decide) HA.out)
  go_enter func164,ntmps164
  go_wp2_with (first
   | (go_at_call 103;with_reducible refine (CHA.out _ HH.out).mono ?_;rintro e w1 ⟨rfl,hb,hx⟩;have HB:=aA0 hb;have HN1:=aA0 (HN.out.but hb);have HX:=aA0 hx;clear hb hx)
   | (go_at_call 164;refine (HIH.out.unary HX.out HN1.out HY.out (by omega)).mono ?_;rintro e w2 ⟨⟨_,rfl,Ac,cc,rfl,hv⟩,hb,hx⟩;have HS:=aA0 (hs1 (t:=134) (TmO.mk hv));have HB2:=aA0 (HB.out.trans hb);have HX2:=aA0 hx;clear hv hb hx)
   | (go_at_call 142;refine (aE8 18 _ 1 [a] _ HS.out (by simp) (by omega)).mono ?_;rintro e w6 ⟨⟨v,rfl,hv⟩,hb⟩;have HV6:=aA0 hv;have HB6:=aA0 (((Bel.refl w2).alloc (.cells #[.slice Ac a.length cc] 134)).trans hb);clear hv hb))
  go_ret;exact ⟨⟨_,rfl,HV6.out.low (by have:=HB2.out.size;simp;omega)⟩,HB2.out.trans (But.of_bel HB6.out),HX2.out.bel HB6.out⟩
 | none =>
  rw [ha] at hr;dsimp only at hr;cases ha2:aAg (aA5 T) [33] ts with
  | some t1 =>
   rw [ha2] at hr;dsimp only at hr;rw [Option.bind_eq_some_iff] at hr;obtain ⟨⟨a,t2⟩,hy,hr⟩:=hr;injection hr with hr
   injection hr with hr1 hr2
   subst hr1;subst hr2;have hll:=hl;rw [aH6] at hll;simp at hll
   have HA:=aA0 ha;have HA2:=aA0 ha2;have HY:=aA0 hy;clear ha hy ha2;have CHA:=aA0 (fun (w0:World) (hx:RdX w0 B T ts v2 v3 v4 v5 v6)=>aBp hx { data:=#[45] } HA.out);have CHA2:=aA0 (fun (w0:World) (hx:RdX w0 B T ts v2 v3 v4 v5 v6)=>aC0 hx { data:=#[33] } (by decide) HA2.out)
   go_enter func164,ntmps164
   go_wp2_with (first
    | (go_at_call 103;with_reducible refine (CHA.out _ HH.out).mono ?_;rintro e w0 ⟨rfl,hb,hx⟩;have HB0:=aA0 hb;have HX0:=aA0 hx;clear hb hx)
    | (go_at_call 103;with_reducible refine (CHA2.out _ HX0.out).mono ?_;rintro e w1 ⟨rfl,hb,hx⟩;have HB:=aA0 (HB0.out.trans hb);have HN1:=aA0 (HN.out.but HB.out);have HX:=aA0 hx;clear hb hx)
    | (go_at_call 164;refine (HIH.out.unary HX.out HN1.out HY.out (by omega)).mono ?_;rintro e w2 ⟨⟨_,rfl,Ac,cc,rfl,hv⟩,hb,hx⟩;have HS:=aA0 (hs1 (t:=134) (TmO.mk hv));have HB2:=aA0 (HB.out.trans hb);have HX2:=aA0 hx;clear hv hb hx)
    | (go_at_call 142;refine (aE8 19 _ 1 [a] _ HS.out (by simp) (by omega)).mono ?_;rintro e w6 ⟨⟨v,rfl,hv⟩,hb⟩;have HV6:=aA0 hv;have HB6:=aA0 (((Bel.refl w2).alloc (.cells #[.slice Ac a.length cc] 134)).trans hb);clear hv hb))
   go_ret;exact ⟨⟨_,rfl,HV6.out.low (by have:=HB2.out.size;simp;omega)⟩,HB2.out.trans (But.of_bel HB6.out),HX2.out.bel HB6.out⟩
  | none =>
   rw [ha2] at hr;dsimp only at hr;have HA:=aA0 ha;have HA2:=aA0 ha2;have HY:=aA0 hr;clear ha hr ha2;have CHA:=aA0 (fun (w0:World) (hx:RdX w0 B T ts v2 v3 v4 v5 v6)=>aBp hx { data:=#[45] } HA.out);have CHA2:=aA0 (fun (w0:World) (hx:RdX w0 B T ts v2 v3 v4 v5 v6)=>aBp hx { data:=#[33] } HA2.out);go_enter func164,ntmps164
   go_wp2_with (first
    | (go_at_call 103;with_reducible refine (CHA.out _ HH.out).mono ?_;rintro e w0 ⟨rfl,hb,hx⟩;have HB0:=aA0 hb;have HX0:=aA0 hx;clear hb hx)
    | (go_at_call 103;with_reducible refine (CHA2.out _ HX0.out).mono ?_;rintro e w1 ⟨rfl,hb,hx⟩;have HB:=aA0 (HB0.out.trans hb);have HN1:=aA0 (HN.out.but HB.out);have HX:=aA0 hx;clear hb hx)
    | (go_at_call 181;refine (HIH.out.primary HX.out HN1.out HY.out (by omega)).mono ?_;rintro e w2 ⟨⟨v,rfl,hv⟩,hb,hx⟩;have HV2:=aA0 hv;have HB2:=aA0 (HB.out.trans hb);have HX2:=aA0 hx;clear hv hb hx))
   go_ret;exact ⟨⟨_,rfl,HV2.out.low HB.out.size⟩,HB2.out,HX2.out⟩
def bIf (T:Wd) (N:List Wd) (t1:List Tok):Option (List Term × List Tok) :=
 match aAg T [46] t1 with
 | none=>some (aKr 11 0,t1)
 | some t2=>if bAb (aB8 T t2)≠0 then some (aKr (bAb (aB8 T t2)) 0,t2.tail) else (aFb T N t2).bind fun (x,t3)=>some (aKr 12 x,t3)
theorem bNu {T:Wd} {ts:List Tok} (h:bAb (aB8 T ts)≠0):∃ t r,ts=t :: r:=by
 cases ts with
 | nil=>exact absurd rfl h
 | cons t r=>exact ⟨t,r,rfl⟩
theorem aPo (w:Wd) (f:Nat) (l:List Wd):aG1 w f l<=f+l.length:=by
 unfold aG1;split
 .omega
 .split
  .rename_i i hi
   obtain ⟨h,_⟩:=List.findIdx?_eq_some_iff_getElem.1 hi;omega
  .omega
theorem bIg {T:ByteArray} {N:List Wd} {w:World} {B:Nat} {ts r:List Tok} {l:List Term} {v2 v3 v4 v5 v6:Value} (h:RdX w B T ts v2 v3 v4 v5 v6) (hN:NmR B w v2 N) (hNl:N.length<=1000) (hr:bIf (aA5 T) N ts=some (l,r)) :
  Calls prog 191 #[.pointer (some ⟨B,0,none⟩)] w (aTs B T r l v2 v3 v4 v5 v6 w):=by
 have hB:B<w.heap.size:=by obtain ⟨_,_,h⟩:=h;exact h.lt
 unfold bIf at hr;have HH:=aA0 h;have HN:=aA0 hN;clear h hN;cases ha:aAg (aA5 T) [46] ts with
 | none =>
  rw [ha] at hr;injection hr with hr
  injection hr with hr1 hr2
  subst hr1;subst hr2;have HA:=aA0 ha;clear ha;have CHA:=aA0 (fun (w0:World) (hx:RdX w0 B T ts v2 v3 v4 v5 v6)=>aBp hx { data:=#[46] } HA.out);go_enter func191,ntmps191
  go_wp2_with (first
   | (go_at_call 103;with_reducible refine (CHA.out _ HH.out).mono ?_;rintro e w0 ⟨rfl,hb,hx⟩;have HB0:=aA0 hb;have HX0:=aA0 hx;clear hb hx)
   | (go_at_call 167;refine (aFk 11 0 _).mono ?_;rintro e w1 ⟨⟨v,rfl,hv⟩,hb⟩;have HV:=aA0 hv;have HB:=aA0 hb;clear hv hb))
  go_ret;exact ⟨⟨_,rfl,HV.out.low HB0.out.size⟩,HB0.out.trans (But.of_bel HB.out),HX0.out.bel HB.out⟩
 | some t2 =>
  rw [ha] at hr;dsimp only at hr;obtain ⟨op,hop⟩:∃ op,bAb (aB8 (aA5 T) t2)=op:=⟨_,rfl⟩;rw [hop] at hr
  by_cases h0:op=0
  .rw [if_neg (by omega),Option.bind_eq_some_iff] at hr
   obtain ⟨⟨x,t3⟩,hv,hr⟩:=hr;injection hr with hr
   injection hr with hr1 hr2
   subst hr1;subst hr2;subst h0;have HA:=aA0 ha;have HV:=aA0 hv;have HO:=aA0 hop;clear ha hv hop;have CHA:=aA0 (fun (w0:World) (hx:RdX w0 B T ts v2 v3 v4 v5 v6)=>aC0 hx { data:=#[46] } (by decide) HA.out)
   go_enter func191,ntmps191
   go_wp2_with (first
    | (go_at_call 103;with_reducible refine (CHA.out _ HH.out).mono ?_;rintro e w0 ⟨rfl,hb,hx⟩;have HB0:=aA0 hb;have HX0:=aA0 hx;clear hb hx)
    | (go_at_call 104;refine (aBz HX0.out).mono ?_;rintro e w1 ⟨rfl,hb⟩;have HB1:=aA0 (HB0.out.trans (But.of_bel hb));have HX1:=aA0 (HX0.out.bel hb);clear hb)
    | (go_at_call 199;refine (aXg _ _).mono ?_;rintro e w2 ⟨rfl,hb⟩;rw [aCi,HO.out];have HB2:=aA0 (HB1.out.trans (But.of_bel hb));have HX2:=aA0 (HX1.out.bel hb);have HN2:=aA0 (HN.out.but HB2.out);clear hb)
    | (go_at_call 111;refine (aK2 HX2.out HN2.out hNl HV.out).mono ?_;rintro e w3 ⟨rfl,hb,hx⟩;have HB3:=aA0 (HB2.out.trans hb);have HX3:=aA0 hx;clear hb hx)
    | (go_at_call 167;refine (aFk 12 x _).mono ?_;rintro e w4 ⟨⟨v,rfl,hv⟩,hb⟩;have HV4:=aA0 hv;have HB4:=aA0 hb;clear hv hb))
   go_ret;exact ⟨⟨_,rfl,HV4.out.low HB3.out.size⟩,HB3.out.trans (But.of_bel HB4.out),HX3.out.bel HB4.out⟩
  .rw [if_pos h0] at hr
   injection hr with hr
   injection hr with hr1 hr2
   subst hr1;subst hr2;have hopL:=aPo (aB8 (aA5 T) t2) 13 fldL;rw [show aG1 (aB8 (aA5 T) t2) 13 fldL=op from hop] at hopL
   have hop18:op<=18:=hopL;obtain ⟨t,r0,rfl⟩:=bNu (T:=aA5 T) (ts:=t2) (by rw [hop];exact h0)
   have HA:=aA0 ha;have HO:=aA0 hop;clear ha hop hopL;have d0:((op:Int) != 0)=true:=by simp;omega
   have CHA:=aA0 (fun (w0:World) (hx:RdX w0 B T ts v2 v3 v4 v5 v6)=>aC0 hx { data:=#[46] } (by decide) HA.out)
   go_enter func191,ntmps191
   go_wp2_with (first
    | (go_at_call 103;with_reducible refine (CHA.out _ HH.out).mono ?_;rintro e w0 ⟨rfl,hb,hx⟩;have HB0:=aA0 hb;have HX0:=aA0 hx;clear hb hx)
    | (go_at_call 104;refine (aBz HX0.out).mono ?_;rintro e w1 ⟨rfl,hb⟩;have HB1:=aA0 (HB0.out.trans (But.of_bel hb));have HX1:=aA0 (HX0.out.bel hb);clear hb)
    | (go_at_call 199;refine (aXg _ _).mono ?_;rintro e w2 ⟨rfl,hb⟩;rw [aCi,HO.out];have HB2:=aA0 (HB1.out.trans (But.of_bel hb));have HX2:=aA0 (HX1.out.bel hb);clear hb)
    | (go_at_call 107;refine (aEj HX2.out).mono ?_;rintro e w3 ⟨rfl,hb,hx⟩;have HB3:=aA0 (HB2.out.trans hb);have HX3:=aA0 hx;clear hb hx)
    | (go_at_call 167;refine (aFk op 0 _).mono ?_;rintro e w4 ⟨⟨v,rfl,hv⟩,hb⟩;have HV4:=aA0 hv;have HB4:=aA0 hb;clear hv hb))
   go_ret;exact ⟨⟨_,rfl,HV4.out.low HB3.out.size⟩,HB3.out.trans (But.of_bel HB4.out),HX3.out.bel HB4.out⟩
theorem aNe {T:Wd} {ts:List Tok} (h:aB8 T ts≠[]):∃ t r,ts=t :: r:=by
 cases ts with
 | nil=>exact absurd rfl h
 | cons t r=>exact ⟨t,r,rfl⟩
theorem aUd {w:Wd} {f:Nat} {l:List Wd} (h:aG1 w f l≠0):w≠[]:=by
 intro e
 unfold aG1 at h;rw [if_pos e] at h;exact h rfl
theorem aVj (T:Wd) (N:List Wd) (n:Nat) (ts:List Tok):aC9 T N (n+1) .primary ts =
  if aIw ts=2 then some (aKr 1 (ts.headD default).num,ts.tail)
  else match aAg T [40] ts with
   | some t1=>(aC9 T N n .choice t1).bind fun (a,t2)=>(aAg T [41] t2).bind fun t3=>some (a,t3)
   | none=>match aAg T [113] ts with
    | some t1=>bIf T N t1
    | none =>
     if bEb (aB8 T ts)≠0 then some (aKr (bEb (aB8 T ts)) 0,ts.tail)
     else if bDy (aB8 T ts)≠0 then (aAg T [40] ts.tail).bind fun t1=>(aC9 T N n .choice t1).bind fun (a,t2)=>(aAg T [41] t2).bind fun t3=>some (aW5 (bDy (aB8 T ts)) [a],t3)
     else (aFb T N ts).bind fun (x,t1)=>some (aKr 5 x,t1):=by
 rw [aC9];rfl
theorem bDc (a b c d:Int) (w:World):(Instr.field 119 (.agg #[.int .i64 a,.int .i64 b,.int .i64 c,.int .i64 d]) 3).run prog w = .ok (.int .i64 d) w:=by kernel_rfl
theorem aYt {T:ByteArray} {N:List Wd} {n:Nat} (IH:ReadOK T N n) (hNl:N.length<=1000) {w:World} {B:Nat} {ts r:List Tok} {l:List Term} {v2 v3 v4 v5 v6:Value} (h:RdX w B T ts v2 v3 v4 v5 v6) (hN:NmR B w v2 N) (hr:aC9 (aA5 T) N (n+1) .primary ts=some (l,r)) (hl:l.length<=1000) :
  Calls prog 181 #[.pointer (some ⟨B,0,none⟩)] w (aTs B T r l v2 v3 v4 v5 v6 w):=by
 have hB:B<w.heap.size:=by obtain ⟨_,_,h⟩:=h;exact h.lt
 rw [aVj] at hr;have HH:=aA0 h;have HN:=aA0 hN;have HIH:=aA0 IH;clear h hN IH
 by_cases hk:aIw ts=2
 .rw [if_pos hk] at hr
  injection hr with hr
  injection hr with hr1 hr2
  subst hr1;subst hr2
  obtain ⟨t,r0,rfl⟩:∃ t r,ts=t :: r:=by
   cases ts with
   | nil=>exact absurd hk (by simp [aIw])
   | cons t r=>exact ⟨t,r,rfl⟩
  have HK:=aA0 hk;clear hk;have rf:=bDc;go_enter func181,ntmps181
  go_wp2_with (first
   | (go_at_call 104;refine (aBz HH.out).mono ?_;rintro e w1 ⟨rfl,hb⟩;have HB1:=aA0 (But.of_bel (B:=B) hb);have HX1:=aA0 (HH.out.bel hb);clear hb)
   | (go_at_call 105;refine (aFr HX1.out).mono ?_;rintro e w2 ⟨rfl,rfl⟩;rw [HK.out])
   | (go_at_call 107;refine (aEj HX1.out).mono ?_;rintro e w3 ⟨rfl,hb,hx⟩;have HB3:=aA0 (HB1.out.trans hb);have HX3:=aA0 hx;clear hb hx)
   | (go_at_call 167;refine (aFk 1 t.num _).mono ?_;rintro e w4 ⟨⟨v,rfl,hv⟩,hb⟩;have HV4:=aA0 hv;have HB4:=aA0 hb;clear hv hb))
  go_ret;exact ⟨⟨_,rfl,HV4.out.low HB3.out.size⟩,HB3.out.trans (But.of_bel HB4.out),HX3.out.bel HB4.out⟩
 .rw [if_neg hk] at hr
  obtain ⟨k,hkk⟩:∃ k,aIw ts=k:=⟨_,rfl⟩;rw [hkk] at hk;have HK:=aA0 hkk;have dk:((k:Int)==2)=false:=by simp;omega
  clear hkk hk;cases ha:aAg (aA5 T) [40] ts with
  | some t1 =>
   rw [ha] at hr;dsimp only at hr;rw [Option.bind_eq_some_iff] at hr;obtain ⟨⟨a,t2⟩,hy,hr⟩:=hr;dsimp only at hr;rw [Option.bind_eq_some_iff] at hr;obtain ⟨t3,hco,hr⟩:=hr;injection hr with hr
   injection hr with hr1 hr2
   subst hr1;subst hr2;have HY:=aA0 hy;have C1:=aA0 (fun (w0:World) (hx:RdX w0 B T ts v2 v3 v4 v5 v6)=>aC0 hx { data:=#[40] } (by decide) ha)
   have C2:=aA0 (fun (w0:World) (hx:RdX w0 B T t2 v2 v3 v4 v5 v6)=>aC7 hx { data:=#[41] } (by decide) hco)
   clear ha hy hco;go_enter func181,ntmps181
   go_wp2_with (first
    | (go_at_call 104;refine (aBz HH.out).mono ?_;rintro e w1 ⟨rfl,hb⟩;have HB1:=aA0 (But.of_bel (B:=B) hb);have HX1:=aA0 (HH.out.bel hb);clear hb)
    | (go_at_call 105;refine (aFr HX1.out).mono ?_;rintro e w2 ⟨rfl,rfl⟩;rw [HK.out])
    | (go_at_call 103;with_reducible refine (C1.out _ HX1.out).mono ?_;rintro e w2 ⟨rfl,hb,hx⟩;have HB2:=aA0 (HB1.out.trans hb);have HN2:=aA0 (HN.out.but HB2.out);have HX2:=aA0 hx;clear hb hx)
    | (go_at_call 110;refine (HIH.out.choice HX2.out HN2.out HY.out hl).mono ?_;rintro e w3 ⟨⟨v,rfl,hv⟩,hb,hx⟩;have HV3:=aA0 (hv.low HB2.out.size);have HB3:=aA0 (HB2.out.trans hb);have HX3:=aA0 hx;clear hv hb hx)
    | (go_at_call 56;with_reducible refine (C2.out _ HX3.out).mono ?_;rintro e w4 ⟨⟨x,rfl⟩,hb,hx⟩;have HV4:=aA0 (HV3.out.but hb hB);have HB4:=aA0 (HB3.out.trans hb);have HX4:=aA0 hx;clear hb hx))
   go_ret;exact ⟨⟨_,rfl,HV4.out⟩,HB4.out,HX4.out⟩
  | none =>
   rw [ha] at hr;dsimp only at hr;have C1:=aA0 (fun (w0:World) (hx:RdX w0 B T ts v2 v3 v4 v5 v6)=>aBp hx { data:=#[40] } ha);clear ha;cases hq:aAg (aA5 T) [113] ts with
   | some t1 =>
    rw [hq] at hr;dsimp only at hr;have HY:=aA0 hr;have C2:=aA0 (fun (w0:World) (hx:RdX w0 B T ts v2 v3 v4 v5 v6)=>aC0 hx { data:=#[113] } (by decide) hq)
    clear hr hq;go_enter func181,ntmps181
    go_wp2_with (first
     | (go_at_call 104;refine (aBz HH.out).mono ?_;rintro e w1 ⟨rfl,hb⟩;have HB1:=aA0 (But.of_bel (B:=B) hb);have HX1:=aA0 (HH.out.bel hb);clear hb)
     | (go_at_call 105;refine (aFr HX1.out).mono ?_;rintro e w2 ⟨rfl,rfl⟩;rw [HK.out])
     | (go_at_call 103;with_reducible refine (C1.out _ HX1.out).mono ?_;rintro e w2 ⟨rfl,hb,hx⟩;have HB2:=aA0 (HB1.out.trans hb);have HX2:=aA0 hx;clear hb hx)
     | (go_at_call 103;with_reducible refine (C2.out _ HX2.out).mono ?_;rintro e w3 ⟨rfl,hb,hx⟩;have HB3:=aA0 (HB2.out.trans hb);have HN3:=aA0 (HN.out.but HB3.out);have HX3:=aA0 hx;clear hb hx)
     | (go_at_call 191;refine (bIg HX3.out HN3.out hNl HY.out).mono ?_;rintro e w4 ⟨⟨v,rfl,hv⟩,hb,hx⟩;have HV4:=aA0 (hv.low HB3.out.size);have HB4:=aA0 (HB3.out.trans hb);have HX4:=aA0 hx;clear hv hb hx))
    go_ret;exact ⟨⟨_,rfl,HV4.out⟩,HB4.out,HX4.out⟩
   | none =>
    rw [hq] at hr;dsimp only at hr;have C2:=aA0 (fun (w0:World) (hx:RdX w0 B T ts v2 v3 v4 v5 v6)=>aBp hx { data:=#[113] } hq);clear hq;obtain ⟨co,hco⟩:∃ co,bEb (aB8 (aA5 T) ts)=co:=⟨_,rfl⟩;rw [hco] at hr;have HCO:=aA0 hco
    by_cases h0:co=0
    .subst h0
     rw [if_neg (by simp)] at hr
     clear hco;obtain ⟨ag,hag⟩:∃ ag,bDy (aB8 (aA5 T) ts)=ag:=⟨_,rfl⟩;rw [hag] at hr;have HAG:=aA0 hag
     by_cases h1:ag=0
     .subst h1
      rw [if_neg (by simp),Option.bind_eq_some_iff] at hr
      obtain ⟨⟨x,t3⟩,hv,hr⟩:=hr;injection hr with hr
      injection hr with hr1 hr2
      subst hr1;subst hr2;have HV:=aA0 hv;clear hv hag;go_enter func181,ntmps181
      go_wp2_with (first
       | (go_at_call 104;refine (aBz HH.out).mono ?_;rintro e w1 ⟨rfl,hb⟩;have HB1:=aA0 (But.of_bel (B:=B) hb);have HX1:=aA0 (HH.out.bel hb);clear hb)
       | (go_at_call 105;refine (aFr HX1.out).mono ?_;rintro e w2 ⟨rfl,rfl⟩;rw [HK.out])
       | (go_at_call 103;with_reducible refine (C1.out _ HX1.out).mono ?_;rintro e w2 ⟨rfl,hb,hx⟩;have HB2:=aA0 (HB1.out.trans hb);have HX2:=aA0 hx;clear hb hx)
       | (go_at_call 103;with_reducible refine (C2.out _ HX2.out).mono ?_;rintro e w3 ⟨rfl,hb,hx⟩;have HB3:=aA0 (HB2.out.trans hb);have HX3:=aA0 hx;clear hb hx)
       | (go_at_call 192;refine (aQe _ _).mono ?_;rintro e w4 ⟨rfl,hb⟩;rw [aCi,HCO.out];have HB4:=aA0 (HB3.out.trans (But.of_bel hb));have HX4:=aA0 (HX3.out.bel hb);clear hb)
       | (go_at_call 193;refine (aWd _ _).mono ?_;rintro e w5 ⟨rfl,hb⟩;rw [aCi,HAG.out];have HB5:=aA0 (HB4.out.trans (But.of_bel hb));have HX5:=aA0 (HX4.out.bel hb);have HN5:=aA0 (HN.out.but HB5.out);clear hb)
       | (go_at_call 111;refine (aK2 HX5.out HN5.out hNl HV.out).mono ?_;rintro e w6 ⟨rfl,hb,hx⟩;have HB6:=aA0 (HB5.out.trans hb);have HX6:=aA0 hx;clear hb hx)
       | (go_at_call 167;refine (aFk 5 x _).mono ?_;rintro e w7 ⟨⟨v,rfl,hv⟩,hb⟩;have HV7:=aA0 hv;have HB7:=aA0 hb;clear hv hb))
      go_ret;exact ⟨⟨_,rfl,HV7.out.low HB6.out.size⟩,HB6.out.trans (But.of_bel HB7.out),HX6.out.bel HB7.out⟩
     .rw [if_pos h1,Option.bind_eq_some_iff] at hr
      obtain ⟨t1,hp1,hr⟩:=hr;rw [Option.bind_eq_some_iff] at hr;obtain ⟨⟨a,t2⟩,hy,hr⟩:=hr;dsimp only at hr;rw [Option.bind_eq_some_iff] at hr;obtain ⟨t3,hp2,hr⟩:=hr;injection hr with hr
      injection hr with hr1 hr2
      subst hr1;subst hr2;have hagL:=aPo (aB8 (aA5 T) ts) 20 aggL;rw [show aG1 (aB8 (aA5 T) ts) 20 aggL=ag from hag] at hagL
      have hag30:ag<=30:=hagL;have hne:=aUd (show aG1 (aB8 (aA5 T) ts) 20 aggL≠0 from by rw [show aG1 (aB8 (aA5 T) ts) 20 aggL=ag from hag];exact h1)
      obtain ⟨t,r0,rfl⟩:=aNe hne;have hll:=hl;rw [aH6] at hll;simp at hll
      have HY:=aA0 hy;have C3:=aA0 (fun (w0:World) (hx:RdX w0 B T r0 v2 v3 v4 v5 v6)=>aC7 hx { data:=#[40] } (by decide) hp1)
      have C4:=aA0 (fun (w0:World) (hx:RdX w0 B T t2 v2 v3 v4 v5 v6)=>aC7 hx { data:=#[41] } (by decide) hp2)
      have d1:((ag:Int) != 0)=true:=by simp;omega
      clear hy hp1 hp2 hag hagL hne;go_enter func181,ntmps181
      go_wp2_with (first
       | (go_at_call 104;refine (aBz HH.out).mono ?_;rintro e w1 ⟨rfl,hb⟩;have HB1:=aA0 (But.of_bel (B:=B) hb);have HX1:=aA0 (HH.out.bel hb);clear hb)
       | (go_at_call 105;refine (aFr HX1.out).mono ?_;rintro e w2 ⟨rfl,rfl⟩;rw [HK.out])
       | (go_at_call 103;with_reducible refine (C1.out _ HX1.out).mono ?_;rintro e w2 ⟨rfl,hb,hx⟩;have HB2:=aA0 (HB1.out.trans hb);have HX2:=aA0 hx;clear hb hx)
       | (go_at_call 103;with_reducible refine (C2.out _ HX2.out).mono ?_;rintro e w3 ⟨rfl,hb,hx⟩;have HB3:=aA0 (HB2.out.trans hb);have HX3:=aA0 hx;clear hb hx)
       | (go_at_call 192;refine (aQe _ _).mono ?_;rintro e w4 ⟨rfl,hb⟩;rw [aCi,HCO.out];have HB4:=aA0 (HB3.out.trans (But.of_bel hb));have HX4:=aA0 (HX3.out.bel hb);clear hb)
       | (go_at_call 193;refine (aWd _ _).mono ?_;rintro e w5 ⟨rfl,hb⟩;rw [aCi,HAG.out];have HB5:=aA0 (HB4.out.trans (But.of_bel hb));have HX5:=aA0 (HX4.out.bel hb);clear hb)
       | (go_at_call 107;refine (aEj HX5.out).mono ?_;rintro e w6 ⟨rfl,hb,hx⟩;have HB6:=aA0 (HB5.out.trans hb);have HX6:=aA0 hx;clear hb hx)
       | (go_at_call 56;with_reducible refine (C3.out _ HX6.out).mono ?_;rintro e w7 ⟨⟨x,rfl⟩,hb,hx⟩;have HB7:=aA0 (HB6.out.trans hb);have HN7:=aA0 (HN.out.but HB7.out);have HX7:=aA0 hx;clear hb hx)
       | (go_at_call 110;refine (HIH.out.choice HX7.out HN7.out HY.out (by omega)).mono ?_;rintro e w8 ⟨⟨_,rfl,Ac,cc,rfl,hv⟩,hb,hx⟩;have HV8:=aA0 ((TmO.mk hv).low HB7.out.size);have HB8:=aA0 (HB7.out.trans hb);have HX8:=aA0 hx;clear hv hb hx)
       | (go_at_call 56;with_reducible refine (C4.out _ HX8.out).mono ?_;rintro e w9 ⟨⟨x9,rfl⟩,hb,hx⟩;have HS:=aA0 (hs1 (t:=134) (HV8.out.but hb hB));have HB9:=aA0 (HB8.out.trans hb);have HX9:=aA0 hx;clear hb hx)
       | (go_at_call 142;refine (aE8 ag _ 1 [a] _ HS.out (by simp) (by omega)).mono ?_;rintro e wa ⟨⟨v,rfl,hv⟩,hb⟩;have HVa:=aA0 hv;have HBa:=aA0 (((Bel.refl w9).alloc (.cells #[.slice Ac a.length cc] 134)).trans hb);clear hv hb))
      go_ret;exact ⟨⟨_,rfl,HVa.out.low (by have:=HB9.out.size;simp;omega)⟩,HB9.out.trans (But.of_bel HBa.out),HX9.out.bel HBa.out⟩
    .rw [if_pos h0] at hr
     injection hr with hr
     injection hr with hr1 hr2
     subst hr1;subst hr2;have hcoL:=aPo (aB8 (aA5 T) ts) 2 conL;rw [show aG1 (aB8 (aA5 T) ts) 2 conL=co from hco] at hcoL
     have hco11:co<=11:=hcoL;have hne:=aUd (show aG1 (aB8 (aA5 T) ts) 2 conL≠0 from by rw [show aG1 (aB8 (aA5 T) ts) 2 conL=co from hco];exact h0)
     obtain ⟨t,r0,rfl⟩:=aNe hne;have d1:((co:Int) != 0)=true:=by simp;omega
     clear hco hcoL hne;go_enter func181,ntmps181
     go_wp2_with (first
      | (go_at_call 104;refine (aBz HH.out).mono ?_;rintro e w1 ⟨rfl,hb⟩;have HB1:=aA0 (But.of_bel (B:=B) hb);have HX1:=aA0 (HH.out.bel hb);clear hb)
      | (go_at_call 105;refine (aFr HX1.out).mono ?_;rintro e w2 ⟨rfl,rfl⟩;rw [HK.out])
      | (go_at_call 103;with_reducible refine (C1.out _ HX1.out).mono ?_;rintro e w2 ⟨rfl,hb,hx⟩;have HB2:=aA0 (HB1.out.trans hb);have HX2:=aA0 hx;clear hb hx)
      | (go_at_call 103;with_reducible refine (C2.out _ HX2.out).mono ?_;rintro e w3 ⟨rfl,hb,hx⟩;have HB3:=aA0 (HB2.out.trans hb);have HX3:=aA0 hx;clear hb hx)
      | (go_at_call 192;refine (aQe _ _).mono ?_;rintro e w4 ⟨rfl,hb⟩;rw [aCi,HCO.out];have HB4:=aA0 (HB3.out.trans (But.of_bel hb));have HX4:=aA0 (HX3.out.bel hb);clear hb)
      | (go_at_call 107;refine (aEj HX4.out).mono ?_;rintro e w6 ⟨rfl,hb,hx⟩;have HB6:=aA0 (HB4.out.trans hb);have HX6:=aA0 hx;clear hb hx)
      | (go_at_call 167;refine (aFk co 0 _).mono ?_;rintro e w7 ⟨⟨v,rfl,hv⟩,hb⟩;have HV7:=aA0 hv;have HB7:=aA0 hb;clear hv hb))
     go_ret;exact ⟨⟨_,rfl,HV7.out.low HB6.out.size⟩,HB6.out.trans (But.of_bel HB7.out),HX6.out.bel HB7.out⟩
theorem bJ9 (T:Wd) (N:List Wd) (n lv:Nat) (ts:List Tok):aC9 T N (n+1) (.bin lv) ts=if lv=6 then aC9 T N n .unary ts else (aC9 T N n (.bin (lv+1)) ts).bind fun (a,t1)=>aC9 T N n (.more lv a) t1:=by
 rw [aC9]
theorem bFs (T:Wd) (N:List Wd) (n lv:Nat) (a:List Term) (ts:List Tok):aC9 T N (n+1) (.more lv a) ts =
  if aS5 (aB8 T ts)=0∨aY0 (aS5 (aB8 T ts))≠lv then some (a,ts)
  else (aC9 T N n (.bin (lv+1)) ts.tail).bind fun (b,t1)=>if lv=3 then some (aW5 (aS5 (aB8 T ts)) [a,b],t1) else aC9 T N n (.more lv (aW5 (aS5 (aB8 T ts)) [a,b])) t1:=by
 rw [aC9]
theorem aZv {T:ByteArray} {N:List Wd} {n:Nat} (IH:∀ m,m<=n->ReadOK T N m) {w:World} {B:Nat} {ts r:List Tok} {l:List Term} {v2 v3 v4 v5 v6:Value} {lv:Nat} (hlv:lv<=6) (h:RdX w B T ts v2 v3 v4 v5 v6) (hN:NmR B w v2 N) (hr:aC9 (aA5 T) N (n+1) (.bin lv) ts=some (l,r)) (hl:l.length<=1000) :
  Calls prog 141 #[.pointer (some ⟨B,0,none⟩),.int .i64 (lv:Int)] w (aTs B T r l v2 v3 v4 v5 v6 w):=by
 have hB:B<w.heap.size:=by obtain ⟨_,_,h⟩:=h;exact h.lt
 rw [bJ9] at hr;have HH:=aA0 h;have HN:=aA0 hN;have HIH:=aA0 IH;clear h hN IH
 by_cases h6:lv=6
 .rw [if_pos h6] at hr
  have HR:=aA0 hr;have d6:((lv:Int)==6)=true:=by simp;omega
  clear hr h6;go_enter func141,ntmps141
  go_wp2_with (go_at_call 164;refine ((HIH.out n (Nat.le_refl _)).unary HH.out HN.out HR.out hl).mono ?_;rintro e w2 ⟨⟨v,rfl,hv⟩,hb,hx⟩;have HV2:=aA0 hv;have HB2:=aA0 hb;have HX2:=aA0 hx;clear hv hb hx)
  go_ret;exact ⟨⟨_,rfl,HV2.out⟩,HB2.out,HX2.out⟩
 .rw [if_neg h6,Option.bind_eq_some_iff] at hr
  obtain ⟨⟨a,t1⟩,ha,hr⟩:=hr;dsimp only at hr;have hal:=aUw hr;have HA:=aA0 ha;have HR:=aA0 hr;have d6:((lv:Int)==6)=false:=by simp;omega
  have e1:IntKind.i64.wrap ((lv:Int)+1)=((lv+1:Nat):Int):=by rw [IntWalk.i64_in _ (by omega)];omega
  clear ha hr;go_enter func141,ntmps141
  go_wp2_with (go_at_call 141;refine ((HIH.out n (Nat.le_refl _)).bin (lv:=lv+1) (by omega) HH.out HN.out HA.out (by omega)).mono ?_;rintro e w1 ⟨⟨_,rfl,Ac,cc,rfl,hv⟩,hb,hx⟩;have HV1:=aA0 (TmO.mk hv);have HB1:=aA0 hb;have HX1:=aA0 hx;clear hv hb hx)
  go_loopg [5,6] n (fun m av _ov wr=>∃ (k:Nat) (b:List Term) (A:Option Addr) (c:Nat) (tk:List Tok),m=k/\k<=n/\av = .slice A b.length c/\Hid (aC9 (aA5 T) N k (.more lv b) tk=some (l,r))/\Hid (TmO w.heap.size wr (.slice A b.length c) b)/\Hid (But B w wr)/\Hid (RdX wr B T tk v2 v3 v4 v5 v6))
  case atStart=>exact ⟨n,a,Ac,cc,t1,rfl,Nat.le_refl _,rfl,HR.out,HV1.out,HB1.out,HX1.out⟩
  case round =>
   obtain ⟨k,b,A,c,tk,rfl,hkn,rfl,HRk,HVk,HBk,HXk⟩:=hrel
   obtain ⟨k,rfl⟩:∃ m,gk=m+1:=by
    match gk,HRk.out with
    | 0,h=>simp [aC9] at h
    | m+1,_=>exact ⟨m,rfl⟩
   have hrr:=HRk.out;rw [bFs] at hrr;clear HRk;obtain ⟨op,hop⟩:∃ op,aS5 (aB8 (aA5 T) tk)=op:=⟨_,rfl⟩;rw [hop] at hrr;have hopL:=aPo (aB8 (aA5 T) tk) 30 binL;rw [show aG1 (aB8 (aA5 T) tk) 30 binL=op from hop] at hopL
   have hop43:op<=43:=hopL;clear hopL;have HO:=aA0 hop
   by_cases h0:op=0
   .rw [if_pos (.inl h0)] at hrr
    injection hrr with hrr
    injection hrr with hr1 hr2
    subst hr1;subst hr2;subst h0;clear hop
    go_wp2_with (first
     | (go_at_call 104;refine (aBz HXk.out).mono ?_;rintro e w2 ⟨rfl,hb⟩;have HB2:=aA0 (HBk.out.trans (But.of_bel hb));have HX2:=aA0 (HXk.out.bel hb);have HV2:=aA0 (HVk.out.bel hb);clear hb)
     | (go_at_call 165;refine (aM6 _ _).mono ?_;rintro e w3 ⟨rfl,hb⟩;rw [aCi,HO.out];have HB3:=aA0 (HB2.out.trans (But.of_bel hb));have HX3:=aA0 (HX2.out.bel hb);have HV3:=aA0 (HV2.out.bel hb);clear hb))
    go_ret;exact ⟨⟨_,rfl,HV3.out⟩,HB3.out,HX3.out⟩
   .have d0:((op:Int)==0)=false:=by simp;omega
    obtain ⟨le,hle⟩:∃ le,aY0 op=le:=⟨_,rfl⟩;rw [hle] at hrr;have HL:=aA0 hle
    by_cases h1:le=lv
    .rw [if_neg (by rintro (h | h);exact h0 h;exact h h1),Option.bind_eq_some_iff] at hrr
     obtain ⟨⟨d,t2⟩,hd,hrr⟩:=hrr;dsimp only at hrr;have hne:=aUd (show aG1 (aB8 (aA5 T) tk) 30 binL≠0 from by rw [show aG1 (aB8 (aA5 T) tk) 30 binL=op from hop];exact h0)
     obtain ⟨t,r0,rfl⟩:=aNe hne;have dl:((le:Int) != (lv:Int))=false:=by simp;omega
     have HD:=aA0 hd;have hBw:=Nat.lt_of_lt_of_le hB HBk.out.size;clear hop hle hne hd h1
     by_cases h3:lv=3
     .rw [if_pos h3] at hrr
      injection hrr with hrr
      injection hrr with hr1 hr2
      subst hr1;subst hr2;have d3:((lv:Int)==3)=true:=by simp;omega
      have hll:=hl;rw [aH6] at hll;simp at hll
      clear h3
      go_wp2_with (first
       | (go_at_call 104;refine (aBz HXk.out).mono ?_;rintro e w2 ⟨rfl,hb⟩;have HB2:=aA0 (HBk.out.trans (But.of_bel hb));have HX2:=aA0 (HXk.out.bel hb);have HV2:=aA0 (HVk.out.bel hb);clear hb)
       | (go_at_call 165;refine (aM6 _ _).mono ?_;rintro e w3 ⟨rfl,hb⟩;rw [aCi,HO.out];have HB3:=aA0 (HB2.out.trans (But.of_bel hb));have HX3:=aA0 (HX2.out.bel hb);have HV3:=aA0 (HV2.out.bel hb);clear hb)
       | (go_at_call 166;refine (aLk op _ (by omega)).mono ?_;rintro e w4 ⟨rfl,rfl⟩;rw [HL.out])
       | (go_at_call 107;refine (aEj HX3.out).mono ?_;rintro e w5 ⟨rfl,hb,hx⟩;have HB5:=aA0 (HB3.out.trans hb);have HN5:=aA0 (HN.out.but HB5.out);have HV5:=aA0 (HV3.out.but hb hB);have HX5:=aA0 hx;clear hb hx)
       | (go_at_call 141;refine ((HIH.out k (by omega)).bin (lv:=lv+1) (by omega) HX5.out HN5.out HD.out (by omega)).mono ?_;rintro e w6 ⟨⟨_,rfl,Ad,cd,rfl,hv⟩,hb,hx⟩;have HS:=aA0 (hs2 (t:=134) (HV5.out.but hb hB) (TmO.mk hv));have HB6:=aA0 (HB5.out.trans hb);have HX6:=aA0 hx;clear hv hb hx)
       | (go_at_call 142;refine (aE8 op _ 2 [b,d] _ HS.out (by simp) (by omega)).mono ?_;rintro e w7 ⟨⟨v,rfl,hv⟩,hb⟩;have HV7:=aA0 hv;have HB7:=aA0 (((Bel.refl w6).alloc (.cells #[.slice A b.length c,.slice Ad d.length cd] 134)).trans hb);clear hv hb))
      go_ret;exact ⟨⟨_,rfl,HV7.out.low (by have:=HB6.out.size;simp;omega)⟩,HB6.out.trans (But.of_bel HB7.out),HX6.out.bel HB7.out⟩
     .rw [if_neg h3] at hrr
      have d3:((lv:Int)==3)=false:=by simp;omega
      have hll:=aUw hrr;have hll2:=hll;rw [aH6] at hll;simp at hll
      have HRR:=aA0 hrr;clear h3 hrr
      go_wp2_with (first
       | (go_at_call 104;refine (aBz HXk.out).mono ?_;rintro e w2 ⟨rfl,hb⟩;have HB2:=aA0 (HBk.out.trans (But.of_bel hb));have HX2:=aA0 (HXk.out.bel hb);have HV2:=aA0 (HVk.out.bel hb);clear hb)
       | (go_at_call 165;refine (aM6 _ _).mono ?_;rintro e w3 ⟨rfl,hb⟩;rw [aCi,HO.out];have HB3:=aA0 (HB2.out.trans (But.of_bel hb));have HX3:=aA0 (HX2.out.bel hb);have HV3:=aA0 (HV2.out.bel hb);clear hb)
       | (go_at_call 166;refine (aLk op _ (by omega)).mono ?_;rintro e w4 ⟨rfl,rfl⟩;rw [HL.out])
       | (go_at_call 107;refine (aEj HX3.out).mono ?_;rintro e w5 ⟨rfl,hb,hx⟩;have HB5:=aA0 (HB3.out.trans hb);have HN5:=aA0 (HN.out.but HB5.out);have HV5:=aA0 (HV3.out.but hb hB);have HX5:=aA0 hx;clear hb hx)
       | (go_at_call 141;refine ((HIH.out k (by omega)).bin (lv:=lv+1) (by omega) HX5.out HN5.out HD.out (by omega)).mono ?_;rintro e w6 ⟨⟨_,rfl,Ad,cd,rfl,hv⟩,hb,hx⟩;have HS:=aA0 (hs2 (t:=134) (HV5.out.but hb hB) (TmO.mk hv));have HB6:=aA0 (HB5.out.trans hb);have HX6:=aA0 hx;clear hv hb hx)
       | (go_at_call 142;refine (aE8 op _ 2 [b,d] _ HS.out (by simp) (by omega)).mono ?_;rintro e w7 ⟨⟨_,rfl,A7,c7,rfl,hv⟩,hb⟩;have HV7:=aA0 (TmO.mk hv);have HB7:=aA0 (((Bel.refl w6).alloc (.cells #[.slice A b.length c,.slice Ad d.length cd] 134)).trans hb);clear hv hb))
      go_roundg k
      case rel=>exact ⟨k,aW5 op [b,d],A7,c7,t2,rfl,by omega,rfl,HRR.out,HV7.out.low (by have:=HB6.out.size;simp;omega),HB6.out.trans (But.of_bel HB7.out),HX6.out.bel HB7.out⟩
      case measure=>omega
    .rw [if_pos (.inr h1)] at hrr
     injection hrr with hrr
     injection hrr with hr1 hr2
     subst hr1;subst hr2;have dl:((le:Int) != (lv:Int))=true:=by simp;omega
     clear hop hle h1
     go_wp2_with (first
      | (go_at_call 104;refine (aBz HXk.out).mono ?_;rintro e w2 ⟨rfl,hb⟩;have HB2:=aA0 (HBk.out.trans (But.of_bel hb));have HX2:=aA0 (HXk.out.bel hb);have HV2:=aA0 (HVk.out.bel hb);clear hb)
      | (go_at_call 165;refine (aM6 _ _).mono ?_;rintro e w3 ⟨rfl,hb⟩;rw [aCi,HO.out];have HB3:=aA0 (HB2.out.trans (But.of_bel hb));have HX3:=aA0 (HX2.out.bel hb);have HV3:=aA0 (HV2.out.bel hb);clear hb)
      | (go_at_call 166;refine (aLk op _ (by omega)).mono ?_;rintro e w4 ⟨rfl,rfl⟩;rw [HL.out]))
     go_ret;exact ⟨⟨_,rfl,HV3.out⟩,HB3.out,HX3.out⟩
theorem bMb (T:ByteArray) (N:List Wd) (hNl:N.length<=1000) (n:Nat):ReadOK T N n:=by
 induction n using Nat.strongRecOn with
 | _ n ih =>
  match n,ih with
  | 0,_=>exact ⟨fun _ _ h _=>by simp [aC9] at h,fun _ _ _ h _=>by simp [aC9] at h,fun _ _ h _=>by simp [aC9] at h,fun _ _ h _=>by simp [aC9] at h⟩
  | n+1,ih =>
   have IH:=ih n (Nat.lt_succ_self n);exact ⟨fun h1 h2 h3 h4=>aVh IH h1 h2 h3 h4,fun h0 h1 h2 h3 h4=>aZv (fun m hm=>ih m (by omega)) h0 h1 h2 h3 h4,fun h1 h2 h3 h4=>bGf IH h1 h2 h3 h4,fun h1 h2 h3 h4=>aYt IH hNl h1 h2 h3 h4⟩
theorem aSf {T:Wd} {K:List Wd} {ts r:List Tok} {x:Wd} (h:aKi T K ts=some (x,r)):aIw ts=1/\bAu (aB8 T ts)=true/\aB8 T ts=x/\(∀ i (hi:i<K.length),K[i]≠x)/\∃ t,ts=t :: r:=by
 unfold aKi at h;split at h
 .rename_i hc
  injection h with h
  injection h with h1 h2
  subst h1;refine ⟨hc.1,hc.2.1,rfl,fun i hi he=>?_,?_⟩
  .have:=hc.2.2
   rw [<- he] at this;have hm:K.contains K[i]=true:=List.contains_iff_mem.2 (List.getElem_mem hi);rw [hm] at this;cases this
  .cases ts with
   | nil=>exact absurd hc.1 (by simp [aIw])
   | cons t r'=>exact ⟨t,by rw [<- h2];rfl⟩
 .cases h
theorem aJp {w:World} {B:Nat} {T:ByteArray} {ts r:List Tok} {v2 v3 v4 v5 v6:Value} {K:List Wd} {x:Wd} {A:Option Addr} {c:Nat} (h:RdX w B T ts v2 v3 v4 v5 v6) (hK:aAc 1 (bBy B) w A K.length K) (hl:K.length<=1000) (hv:aKi (aA5 T) K ts=some (x,r)) :
  Calls prog 57 #[.pointer (some ⟨B,0,none⟩),.slice A K.length c] w fun e w'=>e = .returned (.string (ba x))/\But B w w'/\RdX w' B T r v2 v3 v4 v5 v6:=by
 obtain ⟨hk,hn,hp,hx,t,rfl⟩:=aSf hv;have HNR:=aA0 hK;have HK:=aA0 hk;have HNM:=aA0 hn;have HP:=aA0 hp;have HX:=aA0 hx;have HH:=aA0 h;have HPL:=aA0 (aYp (T:=T) (ts:=t :: r));have HBIG:Hid (T.size<=16384):=by obtain ⟨_,_,h⟩:=h;exact h.big
 clear hv hK hk hn hx h hp;go_enter func57,ntmps57
 go_wp2_with (first
  | (go_at_call 104;refine (aBz HH.out).mono ?_;rintro e w1 ⟨rfl,hb⟩;rw [HP.out];have HH1:=aA0 (HH.out.bel hb);have HB:=aA0 hb;have HN1:=aA0 (NmR.strs (c:=0) (HNR.out.keep (fun _ _ _ _ _ k hb h=>⟨h.1,(k.cell hb).trans h.2⟩) hb));clear hb)
  | (go_at_call 105;refine (aFr HH1.out).mono ?_;rintro e w2 ⟨rfl,rfl⟩;rw [HK.out])
  | (go_at_call 106;refine (aYb x _ (by have:=HPL.out;have:=HBIG.out;rw [HP.out] at *;omega) true (by rw [<- HP.out];exact HNM.out)).mono ?_;rintro e w2 ⟨rfl,rfl⟩))
 go_loopg [7,28] K.length (fun m _x z wr=>∃ j:Nat,j<=K.length/\m=K.length-j/\z = .int .i64 j/\w1=wr)
 case atStart=>exact ⟨0,by omega,rfl,rfl,rfl⟩
 case round =>
  obtain ⟨j,hj,rfl,rfl,rfl⟩:=hrel
  by_cases hlt:j<K.length
  .have hd0:decide (j<K.length)=true:=by simpa using hlt
   obtain ⟨b,o,rfl,hb,hc⟩:=HN1.out.at_ j hlt;have hne:=HX.out j hlt;have hd:((ba K[j]).toList==(ba x).toList)=false:=by rw [aCu,aCu];simpa using hne
   clear hne;go_wp2
   go_roundg (K.length-(j+1))
   case rel=>exact ⟨j+1,by omega,rfl,by go_num,rfl⟩
   case measure=>omega
  .have hd0:decide (j<K.length)=false:=by simpa using hlt
   go_wp2_with (go_at_call 107;refine (aEj HH1.out).mono ?_;rintro e w2 ⟨rfl,hb,hr⟩;have HB2:=aA0 hb;have HR:=aA0 hr;clear hb hr)
   go_ret;exact ⟨rfl,(But.of_bel HB.out).trans HB2.out,HR.out⟩
theorem bB9 {w:World} {B:Nat} {T:ByteArray} {ts r:List Tok} {v2 v3 v4 v5 v6:Value} {x:Nat} (h:RdX w B T ts v2 v3 v4 v5 v6) (hv:aV4 0 4096 ts=some (x,r)) :
  Calls prog 108 #[.pointer (some ⟨B,0,none⟩),.int .i64 0,.int .i64 4096] w fun e w'=>e = .returned (.int .i64 (x:Int))/\But B w w'/\RdX w' B T r v2 v3 v4 v5 v6:=by
 unfold aV4 at hv;split at hv
 .rename_i hc
  injection hv with hv
  injection hv with h1 h2
  obtain ⟨hk,_,hx⟩:=hc
  obtain ⟨t,r0,rfl⟩:∃ t r,ts=t :: r:=by
   cases ts with
   | nil=>exact absurd hk (by simp [aIw])
   | cons t r=>exact ⟨t,r,rfl⟩
  have e1:t.num=x:=h1;have e2:r0=r:=h2;have hx2:t.num<=4096:=hx;subst e1;subst e2;have HK:=aA0 hk;have HH:=aA0 h;clear h hk h1 h2 hx;have d1:decide ((t.num:Int)<0)=false:=by simp
  have d2:decide ((4096:Int)<(t.num:Int))=false:=by simp;omega
  have rf:=bDc;obtain ⟨A1,k1,hr1⟩:=HH.out;obtain ⟨y0,y1,y2,_⟩:=hr1.cells;have yl:=hr1.lt;obtain ⟨b,o,rfl,hb,t0,t1,t2,t3⟩:=hr1.first
  clear hr1;go_enter func108,ntmps108
  go_wp2_with (first
   | (go_at_call 105;refine (aFr HH.out).mono ?_;rintro e w2 ⟨rfl,rfl⟩;rw [HK.out])
   | (go_at_call 107;refine (aEj HH.out).mono ?_;rintro e w2 ⟨rfl,hb,hr⟩;have HB2:=aA0 hb;have HR:=aA0 hr;clear hb hr))
  go_ret;exact ⟨rfl,HB2.out,HR.out⟩
 .cases hv
theorem RdX.agrX {w w':World} {B X:Nat} {T:ByteArray} {ts:List Tok} {v2 v3 v4 v5 v6:Value} (h:RdX w B T ts v2 v3 v4 v5 v6) (k:Agr (fun q=>q=X) w w') (hX:B<X):RdX w' B T ts v2 v3 v4 v5 v6:=by
 obtain ⟨A,c,h⟩:=h;refine ⟨A,c,?_,h.tok.agr k (fun q e=>by omega),h.cap,h.few,h.ok,h.big⟩
 have hb:=h.blk;unfold Blk at hb ⊢;rw [k.block B (lt_of_block hb) (by omega)];exact hb
theorem Blk.but {w w':World} {B X:Nat} {cs:Array Value} {t:TypeId} (h:Blk w X cs t) (k:But B w w') (hX:X≠B):Blk w' X cs t:=by
 unfold Blk at h ⊢;rw [k.block X (lt_of_block h) hX];exact h
def vrC (n:Wd) (k lo pn:Int):Array Value:=#[.string (ba n),.int .i64 k,.int .i64 lo,.int .i64 0,.int .i64 pn,.int .i64 0]
theorem bH9 {w:World} {B X:Nat} {T:ByteArray} {ts t3:List Tok} {v2 v3 v4 v5 v6:Value} {n:Wd} {k lo:Int} (h:RdX w B T ts v2 v3 v4 v5 v6) (hX:Blk w X (vrC n k lo 0) 132) (hBX:B<X) (hk:aIw ts≠2) (hn:aAg (aA5 T) [110] ts=some t3) (hp:aAg (aA5 T) [43] t3=none) (hm:aAg (aA5 T) [45] t3=none) :
  Calls prog 109 #[.pointer (some ⟨B,0,none⟩),.pointer (some ⟨X,0,none⟩)] w fun e w'=>(∃ x,e = .returned x)/\Agr (fun q=>q=B∨q=X) w w'/\RdX w' B T t3 v2 v3 v4 v5 v6/\Blk w' X (vrC n k lo 1) 132:=by
 obtain ⟨kk,hkk⟩:∃ k,aIw ts=k:=⟨_,rfl⟩;rw [hkk] at hk;have HK:=aA0 hkk;have dk:((kk:Int)==2)=false:=by simp;omega
 have HH:=aA0 h;have HX:=aA0 hX;have C1:=aA0 (fun (w0:World) (hx:RdX w0 B T ts v2 v3 v4 v5 v6)=>aC0 hx { data:=#[110] } (by decide) hn)
 have C2:=aA0 (fun (w0:World) (hx:RdX w0 B T t3 v2 v3 v4 v5 v6)=>aBp hx { data:=#[43] } hp);have C3:=aA0 (fun (w0:World) (hx:RdX w0 B T t3 v2 v3 v4 v5 v6)=>aBp hx { data:=#[45] } hm);clear h hX hk hn hp hm hkk;go_enter func109,ntmps109
 go_wp2_with (first
  | (go_at_call 105;refine (aFr HH.out).mono ?_;rintro e w2 ⟨rfl,rfl⟩;rw [HK.out])
  | (go_at_call 103;with_reducible refine (C1.out _ HH.out).mono ?_;rintro e w1 ⟨rfl,hb,hx⟩;have HB1:=aA0 hb;have HR1:=aA0 hx;have HX1:=aA0 (HX.out.but hb (by omega));have f4:=HX1.out.frozen 4;have c4:=HX1.out.cell 4 (v := .int .i64 0) rfl;have l4:=HX1.out.lt;have HR2:=aA0 (HR1.out.agrX (Agr.setCell (E:=fun q=>q=X) w1 ⟨X,4,none⟩ (.int .i64 1) rfl) hBX);clear hb hx)
  | (go_at_call 103;with_reducible refine (C2.out _ HR2.out).mono ?_;rintro e w2 ⟨rfl,hb,hx⟩;have HB2:=aA0 hb;have HR3:=aA0 hx;clear hb hx)
  | (go_at_call 103;with_reducible refine (C3.out _ HR3.out).mono ?_;rintro e w3 ⟨rfl,hb,hx⟩;have HB3:=aA0 hb;have HR4:=aA0 hx;clear hb hx))
 go_end0
 have hag:Agr (fun q=>q=B∨q=X) w w3:=(((HB1.out.mono (fun q e => .inl e)).trans (Agr.setCell w1 ⟨X,4,none⟩ (.int .i64 1) (.inr rfl))).trans (HB2.out.mono (fun q e => .inl e))).trans (HB3.out.mono (fun q e => .inl e));exact ⟨⟨_,rfl⟩,hag,HR4.out,((show Blk _ X (vrC n k lo 1) _ from HX1.out.set 4 (.int .i64 1)).but HB2.out (by omega)).but HB3.out (by omega)⟩
end Go.Proofs.YtmoebklkkjbigaaGreatDoor

