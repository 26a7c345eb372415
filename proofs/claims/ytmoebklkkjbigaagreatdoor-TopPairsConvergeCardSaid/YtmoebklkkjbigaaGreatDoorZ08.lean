/- Merged. -/
import Derived.Test.YtmoebklkkjbigaaGreatDoorZ06
import Derived.Deep.RegionHeld3
import Derived.ProofKit
import Derived.OpenShut
import Derived.Deep.Slices
import Derived.Deep.Fields
import Derived.ChangeSame
import Derived.Carry
set_option linter.unusedSimpArgs false
set_option linter.unnecessarySimpa false
set_option linter.unusedVariables false
set_option maxRecDepth 100000
set_option maxHeartbeats 1000000
open Go.Proofs.Tryz

namespace Go.Proofs.YtmoebklkkjbigaaGreatDoor
open Go.RowKit
theorem bMl {a b:Int} {r:Int × Int} (h:r=(a,b)):Ending.returned (.tuple #[.int .i64 a,.int .i64 b]) = .returned (.tuple #[.int .i64 r.1,.int .i64 r.2]):=by rw [h]
theorem aEb (a:Int) (w:World):Calls prog 188 #[.int .i64 a] w fun e w'=>e = .returned (.int .i64 (aZk a))/\w=w':=by
 go_enter func188,ntmps188;go_wp2
 all_goals
  go_ret;refine ⟨aA9 ?_,rfl⟩
  unfold aZk;omega
theorem aEj (b:Bool) (w:World):Calls prog 186 #[.bool b] w fun e w'=>e = .returned (.int .i64 (aB0 b))/\w=w':=by
 cases b
 all_goals
  go_enter func186,ntmps186;go_wp2;go_ret;exact ⟨rfl,rfl⟩
theorem aP9 (a b:Int) (w:World) (ha:Num a) (hb:Num b):Calls prog 189 #[.int .i64 a,.int .i64 b] w fun e w'=>e = .returned (.int .i64 (aK6 a b))/\w=w':=by
 by_cases h0:b=0
 .subst h0
  go_enter func189,ntmps189;go_wp2;go_ret;exact ⟨rfl,rfl⟩
 .have hz:(b==0)=false:=by simpa using h0
  have ht:=aTs a b ha;obtain ⟨ht1,ht2⟩:=ht;have ha':=ha;unfold Num at ha hb;obtain ⟨ha1,ha2⟩:=ha;obtain ⟨hb1,hb2⟩:=hb
  by_cases hm:a.tmod b=0
  .have hmb:(a.tmod b != 0)=false:=by simpa using hm
   have HF:Hid (aK6 a b=a.tdiv b):=by
    show aK6 a b=_
    unfold aK6;rw [if_neg h0,if_neg (by simp [hm])]
   clear hm;go_enter func189,ntmps189;go_wp2;go_ret;exact ⟨aA9 HF.out.symm,rfl⟩
  .have hmb:(a.tmod b != 0)=true:=by simpa using hm
   cases hs:(decide (a<0) != decide (b<0)) with
   | true =>
    have HF:Hid (aK6 a b=a.tdiv b-1):=by
     show aK6 a b=_
     unfold aK6;rw [if_neg h0,if_pos ⟨hm,hs⟩]
    have hs':(!(decide (a<0)==decide (b<0)))=true:=hs;clear hm hs;go_enter func189,ntmps189;go_wp2;go_ret;exact ⟨aA9 HF.out.symm,rfl⟩
   | false =>
    have HF:Hid (aK6 a b=a.tdiv b):=by
     show aK6 a b=_
     unfold aK6;rw [if_neg h0,if_neg (by simp [hs])]
    have hs':(!(decide (a<0)==decide (b<0)))=false:=hs;clear hm hs;go_enter func189,ntmps189;go_wp2;go_ret;exact ⟨aA9 HF.out.symm,rfl⟩
theorem bK8 (op a:Int) (w:World) (ha:Num a):Calls prog 177 #[.int .i64 op,.int .i64 a] w fun e w'=>e = .returned (.int .i64 (aKf op a))/\w=w':=by
 unfold Num at ha;obtain ⟨ha1,ha2⟩:=ha
 by_cases h:op=18
 .subst h
  go_enter func177,ntmps177;go_wp2;go_ret;exact ⟨rfl,rfl⟩
 .have HF:Hid (aKf op a=aB0 (a==0)):=by show aKf op a=_;unfold aKf;rw [if_neg h]
  have hb:(op==18)=false:=by simpa using h
  clear h;go_enter func177,ntmps177
  go_wp2_with (go_at_call 186;refine (aEj _ _).mono ?_;rintro e w' ⟨rfl,rfl⟩)
  go_ret;exact ⟨aA9 HF.out.symm,rfl⟩
def cmpF (op a b:Int):Bool :=
 if op=35 then a==b else if op=36 then a != b else if op=37 then decide (a<b) else if op=38 then decide (a<=b) else if op=39 then decide (b<a) else decide (b<=a)
theorem aWz (op a b:Int) (w:World):Calls prog 190 #[.int .i64 op,.int .i64 a,.int .i64 b] w fun e w'=>e = .returned (.bool (cmpF op a b))/\w=w':=by
 go_enter func190,ntmps190;go_wp2
 all_goals
  go_ret;refine ⟨aA1 ?_,rfl⟩
  simp only [beq_iff_eq,beq_eq_false_iff_ne,ne_eq] at *
  unfold cmpF
  repeat' split
  all_goals first | rfl | omega
theorem bE1 (op a b:Int) (h1:35<=op) (h2:op<=40):bH7 op a b=aB0 (cmpF op a b):=by
 have:op=35∨op=36∨op=37∨op=38∨op=39∨op=40:=by omega
 rcases this with h | h | h | h | h | h <;> subst h <;> rfl
theorem bE7 (op a b:Int) (w:World) (h1:30<=op) (h2:op<=42) (ha:Num a) (hb:Num b):Calls prog 179 #[.int .i64 op,.int .i64 a,.int .i64 b] w fun e w'=>e = .returned (.int .i64 (aBv op a b))/\w=w':=by
 have hq:=bBh a b ha;have hm:=aYe a b ha (by unfold Num at hb;omega)
 have hm2:=aYe b (aK6 a b) hb (by omega)
 obtain ⟨hq1,hq2⟩:=hq;obtain ⟨hm1,hm3⟩:=hm;obtain ⟨hm4,hm5⟩:=hm2;have HA:=aA0 ha;have HB:=aA0 hb;unfold Num at ha hb;obtain ⟨ha1,ha2⟩:=ha;obtain ⟨hb1,hb2⟩:=hb;have hcase:op=30∨op=31∨op=32∨op=33∨op=34∨(35<=op/\op<=40)∨op=41∨op=42:=by omega
 rcases hcase with h | h | h | h | h | h | h | h
 .subst h
  go_enter func179,ntmps179
  go_wp2_with (go_at_call 188;refine (aEb _ _).mono ?_;rintro e w' ⟨rfl,rfl⟩)
  go_ret;exact ⟨rfl,rfl⟩
 .subst h
  go_enter func179,ntmps179
  go_wp2_with (first
   | (go_at_call 188;refine (aEb _ _).mono ?_;rintro e w' ⟨rfl,rfl⟩)
   | (go_at_call 189;refine (aP9 _ _ _ HA.out HB.out).mono ?_;rintro e w' ⟨rfl,rfl⟩))
  go_ret;exact ⟨rfl,rfl⟩
 .subst h
  by_cases h0:b=0
  .subst h0
   go_enter func179,ntmps179;go_wp2;go_ret;exact ⟨rfl,rfl⟩
  .have hz:(b==0)=false:=by simpa using h0
   have HF:Hid (aBv 32 a b=aZk (a-b*aK6 a b)):=by
    show aBv 32 a b=_
    unfold aBv bH7;simp [h0]
   clear h0;go_enter func179,ntmps179
   go_wp2_with (first
    | (go_at_call 188;refine (aEb _ _).mono ?_;rintro e w' ⟨rfl,rfl⟩)
    | (go_at_call 189;refine (aP9 _ _ _ HA.out HB.out).mono ?_;rintro e w' ⟨rfl,rfl⟩))
   go_ret;exact ⟨aA9 HF.out.symm,rfl⟩
 .subst h
  go_enter func179,ntmps179
  go_wp2_with (go_at_call 188;refine (aEb _ _).mono ?_;rintro e w' ⟨rfl,rfl⟩)
  go_ret;exact ⟨rfl,rfl⟩
 .subst h
  go_enter func179,ntmps179
  go_wp2_with (go_at_call 188;refine (aEb _ _).mono ?_;rintro e w' ⟨rfl,rfl⟩)
  go_ret;exact ⟨rfl,rfl⟩
 .have HF:Hid (aBv op a b=aB0 (cmpF op a b)):=by
   show aBv op a b=_
   unfold aBv;rw [bE1 op a b h.1 h.2,aLu]
  have e1:(op==30)=false:=by simp;omega
  have e2:(op==31)=false:=by simp;omega
  have e3:(op==32)=false:=by simp;omega
  have e4:(op==33)=false:=by simp;omega
  have e5:(op==34)=false:=by simp;omega
  have e6:(op==41)=false:=by simp;omega
  have e7:(op==42)=false:=by simp;omega
  go_enter func179,ntmps179
  go_wp2_with (first
   | (go_at_call 190;refine (aWz _ _ _ _).mono ?_;rintro e w' ⟨rfl,rfl⟩)
   | (go_at_call 186;refine (aEj _ _).mono ?_;rintro e w' ⟨rfl,rfl⟩))
  go_ret;exact ⟨aA9 HF.out.symm,rfl⟩
 .subst h
  have HF:Hid (aBv 41 a b=aB0 (a != 0&&b != 0)):=by show aBv 41 a b=_;exact aLu _
  by_cases h0:a=0
  .have hz:(a != 0)=false:=by simpa using h0
   rw [hz] at HF;clear h0;go_enter func179,ntmps179
   go_wp2_with (go_at_call 186;refine (aEj _ _).mono ?_;rintro e w' ⟨rfl,rfl⟩)
   go_ret;exact ⟨aA9 HF.out.symm,rfl⟩
  .have hz:(a != 0)=true:=by simpa using h0
   rw [hz] at HF;clear h0;go_enter func179,ntmps179
   go_wp2_with (go_at_call 186;refine (aEj _ _).mono ?_;rintro e w' ⟨rfl,rfl⟩)
   go_ret;exact ⟨aA9 HF.out.symm,rfl⟩
 .subst h
  have HF:Hid (aBv 42 a b=aB0 (a != 0||b != 0)):=by show aBv 42 a b=_;exact aLu _
  by_cases h0:a=0
  .have hz:(a != 0)=false:=by simpa using h0
   rw [hz] at HF;clear h0;go_enter func179,ntmps179
   go_wp2_with (go_at_call 186;refine (aEj _ _).mono ?_;rintro e w' ⟨rfl,rfl⟩)
   go_ret;exact ⟨aA9 HF.out.symm,rfl⟩
  .have hz:(a != 0)=true:=by simpa using h0
   rw [hz] at HF;clear h0;go_enter func179,ntmps179
   go_wp2_with (go_at_call 186;refine (aEj _ _).mono ?_;rintro e w' ⟨rfl,rfl⟩)
   go_ret;exact ⟨aA9 HF.out.symm,rfl⟩
theorem bO4 (a b:Int):∃ m,(if b<a then b else a)=m/\m=min a b:=⟨_,rfl,by split <;> omega⟩
theorem bI6 (a b:Int):∃ m,(if a<b then b else a)=m/\m=max a b:=⟨_,rfl,by split <;> omega⟩
theorem bHt (a:Int) (w:World):Calls prog 196 #[.int .i64 a] w fun e w'=>e = .returned (.bool (a != 0))/\w=w':=by
 go_enter func196,ntmps196;go_wp2;go_ret;exact ⟨rfl,rfl⟩
theorem aQo (A:Option Addr) (n c:Nat) (l:List Int) (w:World) (h:aCy w A n l) (hl:n<=1000) :
  Calls prog 194 #[.slice A n c] w fun e w'=>e = .returned (.int .i64 (aEc l))/\w=w':=by
 obtain rfl:=h.1;have H:=aA0 h;clear h;go_enter func194,ntmps194
 go_wp2_with fail
 go_loopg [3,8] l.length (fun g cv iv wr=>∃ (k:Nat) (z:Int),k+g=l.length/\0<=z/\z<=k/\Hid (z+aEc (l.drop k)=aEc l)/\cv = .int .i64 z/\iv = .int .i64 k/\w=wr)
 case atStart=>exact ⟨0,0,by omega,by omega,by omega,by show _=_;simp,rfl,rfl,rfl⟩
 case round =>
  obtain ⟨k,z,hk,hz0,hz1,HZ,rfl,rfl,rfl⟩:=hrel
  by_cases hlt:k<l.length
  .obtain ⟨b,o,rfl,hb,hc⟩:=H.out.at_ k hlt
   have hstep:Hid (aEc (l.drop k)=(if l[k]=0 then 0 else 1)+aEc (l.drop (k+1))):=by
    show aEc (l.drop k)=_
    rw [List.drop_eq_getElem_cons hlt,bA4]
   by_cases h0:l[k]=0
   .have hz:(l[k] != 0)=false:=by simpa using h0
    have HZ2:Hid (z+aEc (l.drop (k+1))=aEc l):=by show _=_;rw [<- HZ.out,hstep.out,if_pos h0];omega
    clear h0
    go_wp2_with fail
    go_roundg (gk-1)
    case rel=>exact ⟨k+1,z,by omega,by omega,by omega,HZ2,rfl,by go_num,rfl⟩
    case measure=>omega
   .have hz:(l[k] != 0)=true:=by simpa using h0
    have HZ2:Hid (z+1+aEc (l.drop (k+1))=aEc l):=by show _=_;rw [<- HZ.out,hstep.out,if_neg h0];omega
    clear h0
    go_wp2_with fail
    go_roundg (gk-1)
    case rel=>exact ⟨k+1,z+1,by omega,by omega,by omega,HZ2,rfl,by go_num,rfl⟩
    case measure=>omega
  .go_wp2_with fail
   go_ret;refine ⟨aA9 ?_,rfl⟩
   have:=HZ.out;rw [List.drop_eq_nil_of_le (by omega)] at this
   simpa [aEc] using this
theorem bK5 (A:Option Addr) (n c:Nat) (l:List Int) (w:World) (h:aCy w A n l) (hl:n<=1000) :
  Calls prog 197 #[.slice A n c] w fun e w'=>e = .returned (.tuple #[.int .i64 (bOw l).1,.int .i64 (bOw l).2])/\w=w':=by
 obtain rfl:=h.1;have H:=aA0 h;clear h;go_enter func197,ntmps197
 go_wp2_with fail
 go_loopg [2,3,8] l.length (fun g av sv iv wr=>∃ (k:Nat) (a s:Int),k+g=l.length/\Hid (aOu (l.drop k) a s=bOw l)/\av = .int .i64 a/\sv = .int .i64 s/\iv = .int .i64 k/\w=wr)
 case atStart=>exact ⟨0,_,_,by omega,rfl,rfl,rfl,rfl,rfl⟩
 case round =>
  obtain ⟨k,a,s,hk,HZ,rfl,rfl,rfl,rfl⟩:=hrel
  by_cases hlt:k<l.length
  .obtain ⟨b,o,rfl,hb,hc⟩:=H.out.at_ k hlt
   have hstep:Hid (aOu (l.drop k) a s=if a<l[k] then aOu (l.drop (k+1)) l[k] a else aOu (l.drop (k+1)) a (max s l[k])):=by
    show aOu (l.drop k) a s=_
    rw [List.drop_eq_getElem_cons hlt];rfl
   obtain ⟨m,hm,hm'⟩:=bI6 s l[k];have HM:=aA0 hm';clear hm'
   by_cases h0:a<l[k]
   .have hd:decide (a<l[k])=true:=by simpa using h0
    have HZ2:Hid (aOu (l.drop (k+1)) l[k] a=bOw l):=by show _=_;rw [<- HZ.out,hstep.out,if_pos h0]
    clear h0
    go_wp2_with fail
    go_roundg (gk-1)
    case rel=>exact ⟨k+1,l[k],a,by omega,HZ2,rfl,rfl,by go_num,rfl⟩
    case measure=>omega
   .have hd:decide (a<l[k])=false:=by simpa using h0
    have HZ2:Hid (aOu (l.drop (k+1)) a m=bOw l):=by show _=_;rw [<- HZ.out,hstep.out,if_neg h0,HM.out]
    clear h0
    go_wp2_with fail
    go_roundg (gk-1)
    case rel=>exact ⟨k+1,a,m,by omega,HZ2,rfl,rfl,by go_num,rfl⟩
    case measure=>omega
  .go_wp2_with fail
   go_ret2
   have hz:=HZ.out;rw [List.drop_eq_nil_of_le (by omega)] at hz
   exact ⟨bMl hz.symm,rfl⟩
def aG0:List Int->(Int->Bool)->Int->Int
 | [],_,_ => -1
 | a :: l,f,i=>if f a then i else aG0 l f (i+1)
theorem bAe (l:List Int):∀ i,aG0 l (fun a=>a != 0) i=aG8 l i:=by
 induction l with
 | nil=>intro i;rfl
 | cons a l ih =>
  intro i
  simp only [aG0,aG8]
  by_cases h:a=0
  .simp [h,ih]
  .simp [h]
theorem bI0 (l:List Int) (x:Int):∀ i,0<=i->(0<=aG0 l (fun a=>x==a) i↔x∈l):=by
 induction l with
 | nil=>intro i _;simp [aG0]
 | cons a l ih =>
  intro i hi
  simp only [aG0]
  by_cases h:x=a
  .simp [h,hi]
  .simp [h,ih (i+1) (by omega)]
theorem bI4 (A:Option Addr) (n c:Nat) (l:List Int) (x:Int) (w:World) (h:aCy w A n l) (hl:n<=1000) :
  Calls prog 204 #[.slice A n c,.int .i64 x] w fun e w'=>e = .returned (.int .i64 (aG0 l (fun a=>x==a) 0))/\w=w':=by
 obtain rfl:=h.1;have H:=aA0 h;clear h;go_enter func204,ntmps204
 go_wp2_with fail
 go_loopg [8] l.length (fun g iv wr=>∃ (k:Nat),k+g=l.length/\Hid (aG0 (l.drop k) (fun a=>x==a) k=aG0 l (fun a=>x==a) 0)/\iv = .int .i64 k/\w=wr)
 case atStart=>exact ⟨0,by omega,rfl,rfl,rfl⟩
 case round =>
  obtain ⟨k,hk,HZ,rfl,rfl⟩:=hrel
  by_cases hlt:k<l.length
  .obtain ⟨b,o,rfl,hb,hc⟩:=H.out.at_ k hlt
   have hstep:Hid (aG0 (l.drop k) (fun a=>x==a) k=if (x==l[k])=true then (k:Int) else aG0 (l.drop (k+1)) (fun a=>x==a) ((k:Int)+1)):=by
    show aG0 (l.drop k) (fun a=>x==a) k=_
    rw [List.drop_eq_getElem_cons hlt];rfl
   cases h0:(x==l[k]) with
   | true =>
    have HZ2:Hid ((k:Int)=aG0 l (fun a=>x==a) 0):=by show _=_;rw [<- HZ.out,hstep.out,if_pos h0]
    go_wp2_with fail
    go_ret;exact ⟨aA9 HZ2.out,rfl⟩
   | false =>
    have HZ2:Hid (aG0 (l.drop (k+1)) (fun a=>x==a) ((k+1:Nat):Int)=aG0 l (fun a=>x==a) 0):=by show _=_;rw [<- HZ.out,hstep.out,if_neg (by rw [h0];decide)];rfl
    go_wp2_with fail
    go_roundg (gk-1)
    case rel=>exact ⟨k+1,by omega,HZ2,by go_num,rfl⟩
    case measure=>omega
  .go_wp2_with fail
   go_ret;have hz:=HZ.out;rw [List.drop_eq_nil_of_le (by omega)] at hz
   exact ⟨aA9 hz,rfl⟩
theorem aP0 (A:Option Addr) (n c:Nat) (l:List Int) (x:Int) (w:World) (h:aCy w A n l) (hl:n<=1000) :
  Calls prog 202 #[.slice A n c,.int .i64 x] w fun e w'=>e = .returned (.bool (decide (x∈l)))/\w=w':=by
 obtain rfl:=h.1;have H:=aA0 h;clear h
 have HF:Hid (decide (x∈l)=decide (0<=aG0 l (fun a=>x==a) 0)):=by
  show decide (x∈l)=_
  rw [Bool.eq_iff_iff];simp [bI0 l x 0 (by omega)]
 go_enter func202,ntmps202
 go_wp2_with (go_at_call 204;refine (bI4 _ _ _ l _ _ H.out hl).mono ?_;rintro e w' ⟨rfl,rfl⟩)
 go_ret;exact ⟨aA1 HF.out.symm,rfl⟩
theorem bOa (A:Option Addr) (n c:Nat) (l:List Int) (w:World) (h:aCy w A n l) (hl:n<=1000) :
  Calls prog 198 #[.slice A n c] w fun e w'=>e = .returned (.int .i64 (bP1 l))/\w=w':=by
 obtain rfl:=h.1;have H:=aA0 h;clear h;have hcl:=bCb l 0;go_enter func198,ntmps198
 go_wp2_with fail
 go_loopg [3] (aSb l 0) (fun g rv wr=>∃ (k:Int),0<=k/\k+g=aSb l 0/\aSb l k<=g/\Hid (aO5 l g k=bP1 l)/\rv = .int .i64 k/\w=wr)
 case atStart=>exact ⟨0,by omega,by omega,Nat.le_refl _,rfl,rfl,rfl⟩
 case round =>
  obtain ⟨k,hk0,hk,hg,HZ,rfl,rfl⟩:=hrel
  by_cases hm:k∈l
  .have hc:=aUc hm
   obtain ⟨g,rfl⟩:∃ g,gk=g+1:=⟨gk-1,by omega⟩
   have HZ2:Hid (aO5 l g (k+1)=bP1 l):=by
    have:=HZ.out;simp only [aO5] at this
    rw [if_pos hm] at this;exact this
   have hd:decide (k∈l)=true:=decide_eq_true hm;have hk6:k<=1000000:=by omega
   clear hm
   go_wp2_with (go_at_call 202;refine (aP0 _ _ _ l _ _ H.out hl).mono ?_;rintro e w' ⟨rfl,rfl⟩;rw [hd])
   go_roundg g
   case rel=>exact ⟨k+1,by omega,by omega,by omega,HZ2,rfl,rfl⟩
   case measure=>omega
  .have HZ2:Hid (k=bP1 l):=by
    have:=HZ.out;cases gk with
    | zero=>exact this
    | succ g=>simp only [aO5] at this;rw [if_neg hm] at this;exact this
   have hd:decide (k∈l)=false:=decide_eq_false hm;clear hm
   go_wp2_with (go_at_call 202;refine (aP0 _ _ _ l _ _ H.out hl).mono ?_;rintro e w' ⟨rfl,rfl⟩;rw [hd])
   go_ret;exact ⟨aA9 HZ2.out,rfl⟩
theorem aUp (f:FuncId) (p:Int->Bool) (hf:∀ a w,Calls prog f #[.int .i64 a] w fun e w'=>e = .returned (.bool (p a))/\w=w') (hcall:∀ a w,(callFunc f #[a]).run prog w = .ok (.enter f #[a]) w)
  (A:Option Addr) (n c:Nat) (l:List Int) (w:World) (h:aCy w A n l) (hl:n<=1000) :
  Calls prog 195 #[.slice A n c,.func (.func f) #[] #[]] w fun e w'=>e = .returned (.int .i64 (aG0 l p 0))/\w=w':=by
 obtain rfl:=h.1;have H:=aA0 h;clear h;have HF:=aA0 hf;clear hf;go_enter func195,ntmps195
 go_wp2_with fail
 go_loopg [8] l.length (fun g iv wr=>∃ (k:Nat),k+g=l.length/\Hid (aG0 (l.drop k) p k=aG0 l p 0)/\iv = .int .i64 k/\w=wr)
 case atStart=>exact ⟨0,by omega,rfl,rfl,rfl⟩
 case round =>
  obtain ⟨k,hk,HZ,rfl,rfl⟩:=hrel
  by_cases hlt:k<l.length
  .obtain ⟨b,o,rfl,hb,hc⟩:=H.out.at_ k hlt
   have hstep:Hid (aG0 (l.drop k) p k=if p l[k]=true then (k:Int) else aG0 (l.drop (k+1)) p ((k:Int)+1)):=by
    show aG0 (l.drop k) p k=_
    rw [List.drop_eq_getElem_cons hlt];rfl
   cases h0:p l[k] with
   | true =>
    have HZ2:Hid ((k:Int)=aG0 l p 0):=by show _=_;rw [<- HZ.out,hstep.out,if_pos h0]
    go_wp2_with (((with_reducible refine (HF.out _ _).mono ?_);rintro e w' ⟨rfl,rfl⟩;rw [h0]))
    go_ret;exact ⟨aA9 HZ2.out,rfl⟩
   | false =>
    have HZ2:Hid (aG0 (l.drop (k+1)) p ((k+1:Nat):Int)=aG0 l p 0):=by show _=_;rw [<- HZ.out,hstep.out,if_neg (by rw [h0];decide)];rfl
    go_wp2_with (((with_reducible refine (HF.out _ _).mono ?_);rintro e w' ⟨rfl,rfl⟩;rw [h0]))
    go_roundg (gk-1)
    case rel=>exact ⟨k+1,by omega,HZ2,by go_num,rfl⟩
    case measure=>omega
  .go_wp2_with fail
   go_ret;have hz:=HZ.out;rw [List.drop_eq_nil_of_le (by omega)] at hz
   exact ⟨aA9 hz,rfl⟩
theorem bCj (A:Option Addr) (n c:Nat) (l:List Int) (op:Int) (w:World) (h:aCy w A n l) (hl:n<=1000) (h1:20<=op) (h2:op<=29) (hn:∀ x∈l,Num x) :
  Calls prog 187 #[.int .i64 op,.slice A n c] w fun e w'=>e = .returned (.int .i64 (aIm op l))/\w=w':=by
 obtain rfl:=h.1;have H:=aA0 h;clear h;have HN:=aA0 hn;clear hn;have hcase:op=20∨op=21∨op=22∨op=23∨op=24∨op=25∨op=26∨op=27∨op=28∨op=29:=by omega
 clear h1 h2
 rcases hcase with h | h | h | h | h | h | h | h | h | h
 .subst h
  go_enter func187,ntmps187
  go_wp2_with (first
   | (go_at_call 194;refine (aQo _ _ _ l _ H.out hl).mono ?_;rintro e w' ⟨rfl,rfl⟩)
   | (go_at_call 186;refine (aEj _ _).mono ?_;rintro e w' ⟨rfl,rfl⟩))
  go_ret;exact ⟨rfl,rfl⟩
 .subst h
  go_enter func187,ntmps187
  go_wp2_with (first
   | (go_at_call 194;refine (aQo _ _ _ l _ H.out hl).mono ?_;rintro e w' ⟨rfl,rfl⟩)
   | (go_at_call 186;refine (aEj _ _).mono ?_;rintro e w' ⟨rfl,rfl⟩))
  go_ret;exact ⟨rfl,rfl⟩
 .subst h
  go_enter func187,ntmps187
  go_wp2_with (first
   | (go_at_call 194;refine (aQo _ _ _ l _ H.out hl).mono ?_;rintro e w' ⟨rfl,rfl⟩))
  go_ret;exact ⟨rfl,rfl⟩
 .subst h
  have HF:Hid (aG0 l (fun a=>a != 0) 0=aIm 23 l):=bAe l 0;go_enter func187,ntmps187
  go_wp2_with (go_at_call 195;refine (aUp 196 (fun a=>a != 0) (fun a w=>bHt a w) (fun _ _=>by kernel_rfl) _ _ _ l _ H.out hl).mono ?_;rintro e w' ⟨rfl,rfl⟩)
  go_ret;exact ⟨aA9 HF.out,rfl⟩
 .subst h
  go_enter func187,ntmps187
  go_wp2_with fail
  go_loopg [5,42] l.length (fun g mv iv wr=>∃ (k:Nat) (z:Int),k+g=l.length/\Hid ((l.drop k).foldl min z=aIm 24 l)/\mv = .int .i64 z/\iv = .int .i64 k/\w=wr)
  case atStart=>exact ⟨0,_,by omega,rfl,rfl,rfl,rfl⟩
  case round =>
   obtain ⟨k,z,hk,HZ,rfl,rfl,rfl⟩:=hrel
   by_cases hlt:k<l.length
   .obtain ⟨b,o,rfl,hb,hc⟩:=H.out.at_ k hlt
    obtain ⟨m,hm,hm'⟩:=bO4 z l[k]
    have HZ2:Hid ((l.drop (k+1)).foldl min m=aIm 24 l):=by
     have:=HZ.out;rw [List.drop_eq_getElem_cons hlt,List.foldl_cons,<- hm'] at this;exact this
    clear hm'
    go_wp2_with fail
    go_roundg (gk-1)
    case rel=>exact ⟨k+1,m,by omega,HZ2,rfl,by go_num,rfl⟩
    case measure=>omega
   .go_wp2_with fail
    go_ret;have hz:=HZ.out;rw [List.drop_eq_nil_of_le (by omega)] at hz
    exact ⟨aA9 hz,rfl⟩
 .subst h
  go_enter func187,ntmps187
  go_wp2_with (first
   | (go_at_call 197;refine (bK5 _ _ _ l _ H.out hl).mono ?_;rintro e w' ⟨rfl,rfl⟩))
  go_ret;exact ⟨rfl,rfl⟩
 .subst h
  go_enter func187,ntmps187
  go_wp2_with fail
  go_loopg [10,63] l.length (fun g sv iv wr=>∃ (k:Nat) (z:Int),k+g=l.length /\ -(1073741824*k)<=z/\z<=1073741824*k/\Hid (aZk ((l.drop k).foldl (·+·) z)=aIm 26 l)/\sv = .int .i64 z/\iv = .int .i64 k/\w=wr)
  case atStart=>exact ⟨0,0,by omega,by omega,by omega,rfl,rfl,rfl,rfl⟩
  case round =>
   obtain ⟨k,z,hk,hz1,hz2,HZ,rfl,rfl,rfl⟩:=hrel
   by_cases hlt:k<l.length
   .obtain ⟨b,o,rfl,hb,hc⟩:=H.out.at_ k hlt
    have hx:=HN.out l[k] (List.getElem_mem _);unfold Num at hx;obtain ⟨hx1,hx2⟩:=hx
    have HZ2:Hid (aZk ((l.drop (k+1)).foldl (·+·) (z+l[k]))=aIm 26 l):=by
     have:=HZ.out;rw [List.drop_eq_getElem_cons hlt,List.foldl_cons] at this;exact this
    go_wp2_with fail
    go_roundg (gk-1)
    case rel=>exact ⟨k+1,z+l[k],by omega,by omega,by omega,HZ2,rfl,by go_num,rfl⟩
    case measure=>omega
   .have hz:=HZ.out
    rw [List.drop_eq_nil_of_le (by omega)] at hz
    have HZ2:=aA0 hz;clear hz
    go_wp2_with (go_at_call 188;refine (aEb _ _).mono ?_;rintro e w' ⟨rfl,rfl⟩)
    go_ret;exact ⟨aA9 HZ2.out,rfl⟩
 .subst h
  go_enter func187,ntmps187
  go_wp2_with (first
   | (go_at_call 198;refine (bOa _ _ _ l _ H.out hl).mono ?_;rintro e w' ⟨rfl,rfl⟩))
  go_ret;exact ⟨rfl,rfl⟩
 .subst h
  go_enter func187,ntmps187
  go_wp2_with (first
   | (go_at_call 197;refine (bK5 _ _ _ l _ H.out hl).mono ?_;rintro e w' ⟨rfl,rfl⟩))
  go_ret;exact ⟨rfl,rfl⟩
 .subst h
  rcases l with _ | ⟨x,l⟩
  .go_enter func187,ntmps187
   go_wp2_with fail
   go_ret;exact ⟨rfl,rfl⟩
  .obtain ⟨b,o,rfl,hb,hc⟩:=H.out.at_ 0 (by simp)
   have hc':w.cell? ⟨b,o,none⟩=some (.int .i64 x):=by simpa using hc
   clear hc;have hne:(((x :: l).length:Int)==0)=false:=by simp;omega
   go_enter func187,ntmps187
   go_wp2_with fail
   go_ret;exact ⟨rfl,rfl⟩
def aAy:List (Int × Int)->Int
 | []=>1
 | b :: bs=>(b.2-b.1+1)*aAy bs
def okL (bs:List (Int × Int)):Prop:=∀ b∈bs,b.1<=b.2
def inL:List (Int × Int)->List Int->Prop
 | [],[]=>True
 | b :: bs,c :: cs=>b.1<=c/\c<=b.2/\inL bs cs
 | _,_=>False
def aI8:List (Int × Int)->List Int->Int
 | b :: bs,c :: cs=>(c-b.1)*aAy bs+aI8 bs cs
 | _,_=>0
def aE1 (bs:List (Int × Int)):List Int:=bs.map (·.1)
def aFr:List (Int × Int)->List Int->List Int × Bool
 | b :: bs,c :: cs =>
  if (aFr bs cs).2 then (if c<b.2 then ((c+1) :: (aFr bs cs).1,false) else (b.1 :: (aFr bs cs).1,true))
  else (c :: (aFr bs cs).1,false)
 | _,_=>([],true)
def aUd:List (Int × Int)->Int->List Int
 | [],_=>[]
 | b :: bs,k=>(b.1+k / aAy bs) :: aUd bs (k % aAy bs)
theorem aGl {b:Int × Int} {bs:List (Int × Int)} (h:okL (b :: bs)):b.1<=b.2/\okL bs :=
 ⟨h b (List.mem_cons_self ..),fun x hx=>h x (List.mem_cons_of_mem _ hx)⟩
theorem aG5:∀ {bs:List (Int × Int)},okL bs->0<aAy bs
 | [],_=>by decide
 | b :: bs,h=>Int.mul_pos (by have:=(aGl h).1;omega) (aG5 (aGl h).2)
theorem aXx:∀ {bs:List (Int × Int)},okL bs->inL bs (aE1 bs)
 | [],_=>trivial
 | _ :: _,h=>⟨Int.le_refl _,(aGl h).1,aXx (aGl h).2⟩
theorem aOa:∀ bs:List (Int × Int),aI8 bs (aE1 bs)=0
 | []=>rfl
 | b :: bs=>by
  show (b.1-b.1)*aAy bs+aI8 bs (aE1 bs)=0
  rw [aOa bs,Int.sub_self,Int.zero_mul];rfl
theorem aOb:∀ {bs:List (Int × Int)} {cs:List Int},inL bs cs->0<=aI8 bs cs/\aI8 bs cs<aAy bs
 | [],[],_=>by decide
 | [],_ :: _,h=>h.elim
 | _ :: _,[],h=>h.elim
 | b :: bs,c :: cs,h=>by
  obtain ⟨h1,h2,h3⟩:=h;obtain ⟨h4,h5⟩:=aOb h3;show 0<=(c-b.1)*aAy bs+aI8 bs cs/\(c-b.1)*aAy bs+aI8 bs cs<(b.2-b.1+1)*aAy bs
  have hp:0<aAy bs:=by omega
  have hm:0<=(c-b.1)*aAy bs:=Int.mul_nonneg (by omega) (by omega)
  have hm2:(c-b.1+1)*aAy bs<=(b.2-b.1+1)*aAy bs:=Int.mul_le_mul_of_nonneg_right (by omega) (by omega)
  rw [Int.add_mul (c-b.1) 1,Int.one_mul] at hm2;omega
theorem aX1:∀ {bs:List (Int × Int)} {cs:List Int},inL bs cs->aUd bs (aI8 bs cs)=cs
 | [],[],_=>rfl
 | [],_ :: _,h=>h.elim
 | _ :: _,[],h=>h.elim
 | b :: bs,c :: cs,h=>by
  obtain ⟨h1,h2,h3⟩:=h;obtain ⟨h4,h5⟩:=aOb h3;show (b.1+((c-b.1)*aAy bs+aI8 bs cs) / aAy bs) :: aUd bs (((c-b.1)*aAy bs+aI8 bs cs) % aAy bs)=c :: cs
  have hp:aAy bs≠0:=by omega
  rw [Int.add_comm ((c-b.1)*aAy bs),Int.add_mul_ediv_right _ _ hp,Int.add_mul_emod_self_right,Int.ediv_eq_zero_of_lt h4 h5,Int.emod_eq_of_lt h4 h5,aX1 h3]
  congr 1;omega
theorem bCc:∀ {bs:List (Int × Int)} {k:Int},okL bs->0<=k->k<aAy bs->inL bs (aUd bs k)
 | [],_,_,_,_=>trivial
 | b :: bs,k,ho,h0,hk=>by
  have hp:=aG5 (aGl ho).2;have h1:0<=k / aAy bs:=Int.ediv_nonneg h0 (by omega)
  have h2:k / aAy bs<b.2-b.1+1:=Int.ediv_lt_of_lt_mul hp hk;exact ⟨by omega,by omega,bCc (aGl ho).2 (Int.emod_nonneg _ (by omega)) (Int.emod_lt_of_pos _ hp)⟩
theorem aYm:∀ {bs:List (Int × Int)} {k:Int},okL bs->0<=k->k<aAy bs->aI8 bs (aUd bs k)=k
 | [],k,_,h0,hk=>by
  have:aAy []=1:=rfl;show (0:Int)=k;omega
 | b :: bs,k,ho,h0,hk=>by
  have hp:=aG5 (aGl ho).2;show (b.1+k / aAy bs-b.1)*aAy bs+aI8 bs (aUd bs (k % aAy bs))=k
  rw [aYm (aGl ho).2 (Int.emod_nonneg _ (by omega)) (Int.emod_lt_of_pos _ hp),show b.1+k / aAy bs-b.1=k / aAy bs by omega]
  exact Int.ediv_mul_add_emod k (aAy bs)
theorem aU1:∀ {bs:List (Int × Int)} {cs:List Int},inL bs cs ->
  ((aFr bs cs).2=false->aI8 bs (aFr bs cs).1=aI8 bs cs+1)/\((aFr bs cs).2=true->aI8 bs cs=aAy bs-1/\(aFr bs cs).1=aE1 bs)/\inL bs (aFr bs cs).1
 | [],[],_=>⟨(fun h=>by cases h),fun _=>⟨rfl,rfl⟩,trivial⟩
 | [],_ :: _,h=>h.elim
 | _ :: _,[],h=>h.elim
 | b :: bs,c :: cs,h=>by
  obtain ⟨h1,h2,h3⟩:=h;obtain ⟨ih1,ih2,ih3⟩:=aU1 h3;have hs:aAy (b :: bs)=(b.2-b.1+1)*aAy bs:=rfl;cases hk:(aFr bs cs).2 with
  | false =>
   have e:aFr (b :: bs) (c :: cs)=(c :: (aFr bs cs).1,false):=by simp [aFr,hk]
   rw [e];refine ⟨fun _=>?_,(fun h=>by cases h),h1,h2,ih3⟩
   show (c-b.1)*aAy bs+aI8 bs (aFr bs cs).1=(c-b.1)*aAy bs+aI8 bs cs+1
   rw [ih1 hk];omega
  | true =>
   obtain ⟨e1,e2⟩:=ih2 hk
   by_cases hc:c<b.2
   .have e:aFr (b :: bs) (c :: cs)=((c+1) :: (aFr bs cs).1,false):=by simp [aFr,hk,hc]
    rw [e];refine ⟨fun _=>?_,(fun h=>by cases h),by omega,by omega,ih3⟩
    show (c+1-b.1)*aAy bs+aI8 bs (aFr bs cs).1=(c-b.1)*aAy bs+aI8 bs cs+1
    rw [e2,aOa,e1,show c+1-b.1=(c-b.1)+1 by omega,Int.add_mul,Int.one_mul];omega
   .have e:aFr (b :: bs) (c :: cs)=(b.1 :: (aFr bs cs).1,true):=by simp [aFr,hk,hc]
    rw [e];refine ⟨(fun h=>by cases h),fun _=>⟨?_,?_⟩,Int.le_refl _,by omega,ih3⟩
    .show (c-b.1)*aAy bs+aI8 bs cs=aAy (b :: bs)-1
     obtain rfl:c=b.2:=by omega
     rw [hs,e1,Int.add_mul,Int.one_mul];omega
    .show b.1 :: (aFr bs cs).1=b.1 :: aE1 bs
     rw [e2]
def aAv:List (List (Int × Int))->Int
 | []=>1
 | t :: T=>aAy t*aAv T
def okN (T:List (List (Int × Int))):Prop:=∀ t∈T,okL t
def inN:List (List (Int × Int))->List (List Int)->Prop
 | [],[]=>True
 | t :: T,c :: C=>inL t c/\inN T C
 | _,_=>False
def aPi:List (List (Int × Int))->List (List Int)->Int
 | t :: T,c :: C=>aI8 t c*aAv T+aPi T C
 | _,_=>0
def aE2 (T:List (List (Int × Int))):List (List Int):=T.map aE1
def aHt:List (List (Int × Int))->List (List Int)->List (List Int) × Bool
 | t :: T,c :: C=>if (aHt T C).2 then ((aFr t c).1 :: (aHt T C).1,(aFr t c).2) else (c :: (aHt T C).1,false)
 | _,_=>([],true)
def aQn:List (List (Int × Int))->Int->List (List Int)
 | [],_=>[]
 | t :: T,k=>aUd t (k / aAv T) :: aQn T (k % aAv T)
theorem aF7 {t:List (Int × Int)} {T:List (List (Int × Int))} (h:okN (t :: T)):okL t/\okN T :=
 ⟨h t (List.mem_cons_self ..),fun x hx=>h x (List.mem_cons_of_mem _ hx)⟩
theorem aH4:∀ {T:List (List (Int × Int))},okN T->0<aAv T
 | [],_=>by decide
 | _ :: _,h=>Int.mul_pos (aG5 (aF7 h).1) (aH4 (aF7 h).2)
theorem aXy:∀ {T:List (List (Int × Int))},okN T->inN T (aE2 T)
 | [],_=>trivial
 | _ :: _,h=>⟨aXx (aF7 h).1,aXy (aF7 h).2⟩
theorem aOc:∀ T:List (List (Int × Int)),aPi T (aE2 T)=0
 | []=>rfl
 | t :: T=>by
  show aI8 t (aE1 t)*aAv T+aPi T (aE2 T)=0
  rw [aOc T,aOa,Int.zero_mul];rfl
theorem aOd:∀ {T:List (List (Int × Int))} {C:List (List Int)},inN T C->0<=aPi T C/\aPi T C<aAv T
 | [],[],_=>by decide
 | [],_ :: _,h=>h.elim
 | _ :: _,[],h=>h.elim
 | t :: T,c :: C,h=>by
  obtain ⟨h1,h2⟩:=h;obtain ⟨h3,h4⟩:=aOd h2;obtain ⟨h5,h6⟩:=aOb h1;show 0<=aI8 t c*aAv T+aPi T C/\aI8 t c*aAv T+aPi T C<aAy t*aAv T
  have hm:0<=aI8 t c*aAv T:=Int.mul_nonneg h5 (by omega)
  have hm2:(aI8 t c+1)*aAv T<=aAy t*aAv T:=Int.mul_le_mul_of_nonneg_right (by omega) (by omega)
  rw [Int.add_mul,Int.one_mul] at hm2;omega
theorem aM9:∀ {T:List (List (Int × Int))} {C:List (List Int)},inN T C->aQn T (aPi T C)=C
 | [],[],_=>rfl
 | [],_ :: _,h=>h.elim
 | _ :: _,[],h=>h.elim
 | t :: T,c :: C,h=>by
  obtain ⟨h1,h2⟩:=h;obtain ⟨h3,h4⟩:=aOd h2;show aUd t ((aI8 t c*aAv T+aPi T C) / aAv T) :: aQn T ((aI8 t c*aAv T+aPi T C) % aAv T)=c :: C
  have hp:aAv T≠0:=by omega
  rw [Int.add_comm (aI8 t c*aAv T),Int.add_mul_ediv_right _ _ hp,Int.add_mul_emod_self_right,Int.ediv_eq_zero_of_lt h3 h4,Int.emod_eq_of_lt h3 h4,aM9 h2,Int.zero_add,aX1 h1]
theorem aUe:∀ {T:List (List (Int × Int))} {k:Int},okN T->0<=k->k<aAv T->inN T (aQn T k)
 | [],_,_,_,_=>trivial
 | t :: T,k,ho,h0,hk=>by
  have hp:=aH4 (aF7 ho).2;exact ⟨bCc (aF7 ho).1 (Int.ediv_nonneg h0 (by omega)) (Int.ediv_lt_of_lt_mul hp hk),aUe (aF7 ho).2 (Int.emod_nonneg _ (by omega)) (Int.emod_lt_of_pos _ hp)⟩
theorem aRc:∀ {T:List (List (Int × Int))} {k:Int},okN T->0<=k->k<aAv T->aPi T (aQn T k)=k
 | [],k,_,h0,hk=>by
  have:aAv []=1:=rfl;show (0:Int)=k;omega
 | t :: T,k,ho,h0,hk=>by
  have hp:=aH4 (aF7 ho).2;show aI8 t (aUd t (k / aAv T))*aAv T+aPi T (aQn T (k % aAv T))=k
  rw [aRc (aF7 ho).2 (Int.emod_nonneg _ (by omega)) (Int.emod_lt_of_pos _ hp),aYm (aF7 ho).1 (Int.ediv_nonneg h0 (by omega)) (Int.ediv_lt_of_lt_mul hp hk)]
  exact Int.ediv_mul_add_emod k (aAv T)
theorem aU2:∀ {T:List (List (Int × Int))} {C:List (List Int)},inN T C ->
  ((aHt T C).2=false->aPi T (aHt T C).1=aPi T C+1)/\((aHt T C).2=true->aPi T C=aAv T-1/\(aHt T C).1=aE2 T)/\inN T (aHt T C).1
 | [],[],_=>⟨(fun h=>by cases h),fun _=>⟨rfl,rfl⟩,trivial⟩
 | [],_ :: _,h=>h.elim
 | _ :: _,[],h=>h.elim
 | t :: T,c :: C,h=>by
  obtain ⟨h1,h2⟩:=h;obtain ⟨ih1,ih2,ih3⟩:=aU2 h2;obtain ⟨a1,a2,a3⟩:=aU1 h1;have hs:aAv (t :: T)=aAy t*aAv T:=rfl;cases hk:(aHt T C).2 with
  | false =>
   have e:aHt (t :: T) (c :: C)=(c :: (aHt T C).1,false):=by simp [aHt,hk]
   rw [e];refine ⟨fun _=>?_,(fun h=>by cases h),h1,ih3⟩
   show aI8 t c*aAv T+aPi T (aHt T C).1=aI8 t c*aAv T+aPi T C+1
   rw [ih1 hk];omega
  | true =>
   obtain ⟨e1,e2⟩:=ih2 hk;have e:aHt (t :: T) (c :: C)=((aFr t c).1 :: (aHt T C).1,(aFr t c).2):=by simp [aHt,hk]
   rw [e];refine ⟨fun hc=>?_,fun hc=>?_,a3,ih3⟩
   .show aI8 t (aFr t c).1*aAv T+aPi T (aHt T C).1=aI8 t c*aAv T+aPi T C+1
    rw [e2,aOc,e1,a1 hc,Int.add_mul,Int.one_mul];omega
   .obtain ⟨b1,b2⟩:=a2 hc
    refine ⟨?_,?_⟩
    .show aI8 t c*aAv T+aPi T C=aAv (t :: T)-1
     rw [hs,e1,b1,Int.sub_mul,Int.one_mul];omega
    .show (aFr t c).1 :: (aHt T C).1=aE1 t :: aE2 T
     rw [b2,e2]
theorem bH1 {T:List (List (Int × Int))} {k:Int} (ho:okN T) (h0:0<=k) (hk:k+1<aAv T):(aHt T (aQn T k)).1=aQn T (k+1):=by
 have hin:=aUe ho h0 (show k<aAv T by omega)
 have hn:=aRc ho h0 (show k<aAv T by omega)
 obtain ⟨h1,h2,h3⟩:=aU2 hin;cases hc:(aHt T (aQn T k)).2 with
 | true=>have:=(h2 hc).1;omega
 | false =>
  have:=h1 hc;rw [hn] at this;rw [<- this,aM9 h3]
theorem bEd {T:List (List (Int × Int))} (ho:okN T):aQn T 0=aE2 T:=by
 have:=aM9 (aXy ho)
 rwa [aOc] at this
def aE5 (m:Int):List (Int × Int)->List Int
 | []=>[]
 | _ :: bs=>(aAy bs*m) :: aE5 m bs
def aEn:List (List (Int × Int))->List (List Int)
 | []=>[]
 | t :: T=>aE5 (aAv T) t :: aEn T
def aS8:List Int->List Int->List Int->Int
 | p :: ps,d :: ds,c :: cs=>(d-c)*p+aS8 ps ds cs
 | _,_,_=>0
theorem aXe (m:Int):∀ (bs:List (Int × Int)) (cs ds:List Int),inL bs cs->inL bs ds->aS8 (aE5 m bs) ds cs=(aI8 bs ds-aI8 bs cs)*m
 | [],[],[],_,_=>by show (0:Int)=(0-0)*m;rw [Int.sub_self,Int.zero_mul]
 | [],_ :: _,_,h,_=>h.elim
 | [],[],_ :: _,_,h=>h.elim
 | _ :: _,[],_,h,_=>h.elim
 | _ :: _,_ :: _,[],_,h=>h.elim
 | b :: bs,c :: cs,d :: ds,h,h'=>by
  show (d-c)*(aAy bs*m)+aS8 (aE5 m bs) ds cs=((d-b.1)*aAy bs+aI8 bs ds-((c-b.1)*aAy bs+aI8 bs cs))*m
  rw [aXe m bs cs ds h.2.2 h'.2.2,<- Int.mul_assoc,<- Int.add_mul];have e:(d-c)*aAy bs=(d-b.1)*aAy bs-(c-b.1)*aAy bs:=by rw [<- Int.sub_mul];congr 1;omega
  rw [e];congr 1;omega
def bEy:List (List Int)->List (List Int)->List (List Int)->Int
 | p :: P,d :: D,c :: C=>aS8 p d c+bEy P D C
 | _,_,_=>0
theorem bCm:∀ (T:List (List (Int × Int))) (C D:List (List Int)),inN T C->inN T D->aPi T D=aPi T C+bEy (aEn T) D C
 | [],[],[],_,_=>rfl
 | [],_ :: _,_,h,_=>h.elim
 | [],[],_ :: _,_,h=>h.elim
 | _ :: _,[],_,h,_=>h.elim
 | _ :: _,_ :: _,[],_,h=>h.elim
 | t :: T,c :: C,d :: D,h,h'=>by
  show aI8 t d*aAv T+aPi T D=aI8 t c*aAv T+aPi T C+(aS8 (aE5 (aAv T) t) d c+bEy (aEn T) D C)
  rw [aXe _ t c d h.1 h'.1,bCm T C D h.2 h'.2,Int.sub_mul];omega
theorem aX9:∀ p c:List Int,aS8 p c c=0
 | [],_=>by simp [aS8]
 | _ :: _,[]=>by simp [aS8]
 | p :: ps,c :: cs=>by
  show (c-c)*p+aS8 ps cs cs=0
  rw [aX9 ps cs,Int.sub_self,Int.zero_mul];rfl
theorem aXt:∀ (n:Nat) (P D C:List (List Int)),P.length=n->D.length=n->C.length=n ->
  bEy P D C=((List.range n).map fun v=>aS8 (P.getD v []) (D.getD v []) (C.getD v [])).sum
 | 0,[],[],[],_,_,_=>rfl
 | n+1,p :: P,d :: D,c :: C,h1,h2,h3=>by
  have ih:=aXt n P D C (by simpa using h1) (by simpa using h2) (by simpa using h3)
  show aS8 p d c+bEy P D C=_
  rw [List.range_succ_eq_map,List.map_cons,List.map_map,List.sum_cons,ih];rfl
theorem aTo (f g:Nat->Int) (q:Nat->Bool):∀ l:List Nat,(∀ v∈l,f v=if q v then g v else 0)->(l.map f).sum=((l.filter q).map g).sum
 | [],_=>rfl
 | v :: l,h=>by
  have ih:=aTo f g q l (fun w hw=>h w (List.mem_cons_of_mem _ hw));have hv:=h v (List.mem_cons_self ..);rw [List.map_cons,List.sum_cons,ih,hv];cases hq:q v with
  | true=>rw [List.filter_cons_of_pos hq,List.map_cons,List.sum_cons];rfl
  | false=>rw [List.filter_cons_of_neg (by rw [hq];decide)];simp
theorem aQr {S n:Nat} (hn:n<=32) (hS:S<2 ^ n):aAg S=(List.range n).filter (S.testBit ·):=by
 unfold aAg;rw [show (32:Nat)=n+(32-n) by omega,List.range_add,List.filter_append]
 have e:List.filter (fun x=>S.testBit x) (List.map (n+·) (List.range (32-n)))=[]:=by
  rw [List.filter_eq_nil_iff];intro a ha
  simp only [List.mem_map,List.mem_range] at ha
  obtain ⟨b,_,rfl⟩:=ha;rw [Nat.testBit_lt_two_pow (Nat.lt_of_lt_of_le hS (Nat.pow_le_pow_right (by decide) (Nat.le_add_right n b)))]
  decide
 rw [e,List.append_nil]
theorem bLn {n S:Nat} {P D C:List (List Int)} {g:Nat->Int} (hn:n<=32) (hS:S<2 ^ n) (h1:P.length=n) (h2:D.length=n) (h3:C.length=n)
  (hin:∀ v,v<n->S.testBit v=true->aS8 (P.getD v []) (D.getD v []) (C.getD v [])=g v) (hout:∀ v,v<n->S.testBit v=false->D.getD v []=C.getD v []) :
  bEy P D C=((aAg S).map g).sum:=by
 rw [aXt n P D C h1 h2 h3,aQr hn hS];refine aTo _ g _ _ fun v hv=>?_
 have hv':=List.mem_range.1 hv;cases hb:S.testBit v with
 | true=>rw [if_pos rfl];exact hin v hv' hb
 | false=>rw [if_neg (by decide),hout v hv' hb];exact aX9 _ _
def bruijn:List Nat:=[0,1,28,2,29,14,24,3,30,22,20,15,25,17,4,8,31,27,13,23,21,19,16,7,26,12,18,6,11,5,10,9]
theorem bHf:∀ k,k<32->bruijn[(2 ^ k*125613361 % 4294967296) / 134217728]?=some k:=by decide
def bPn (md:Region.Mode) (ops:Array Oper) (i:Nat):Option Nat :=
 (List.range ops.size).find? fun j=>match ops[j]? with | some o=>o.after.any (fun e=>Region.binds md e&&e.on==i) | none=>false
def aJ1 (md:Region.Mode) (ops:Array Oper) (L:Nat):Nat->Nat->List Nat
 | 0,_=>[]
 | n+1,i=>match bPn md ops i with | none=>[] | some j=>j :: (if j==L then [] else aJ1 md ops L n j)
theorem aA6.takeC {P:Program} {ops:Array Oper} {Q:Exit->Act->World->Prop} {md:Region.Mode} {S:World->Prop} {L:Nat} {i:Nat} {oi:Oper} {v:Value} {fuel:Nat} {listed:Array Bool} {a:Act} {w:World} (d:Option Tmp) (hi:ops[i]?=some oi) (hd:oi.dst=d)
  (hs:Region.noSelect ops=true) (hf:Region.free md ops listed i=true) (hr:(Region.ready md ops listed).contains i=true)
  (hc:((aJ1 md ops L 60 i).contains L&&aS5 md ops i (aJ1 md ops L 60 i)&&aFx listed (aJ1 md ops L 60 i))=true)
  (hQ:∀ c a w,Q (.panic c) (a.put d v) w->Q (.panic c) a w) (hS:S w) (hy:YieldsIf P ops S oi v a)
  (h:aA6 P md ops Q S L fuel (listed.setIfInBounds i true) (a.put d v) w):aA6 P md ops Q S L (fuel+1) listed a w:=by
 rw [Bool.and_eq_true,Bool.and_eq_true] at hc;exact aA6.take (aJ1 md ops L 60 i) d hi hd hs hf hr hc.1.1 hc.1.2 hc.2 hQ hS hy h
theorem aA6.t {P:Program} {ops:Array Oper} {Q:Exit->Act->World->Prop} {md:Region.Mode} {S:World->Prop} {L:Nat} {oi:Oper} {v:Value} {fuel:Nat} {listed:Array Bool} {a:Act} {w:World} (i d:Nat) (hi:ops[i]?=some oi) (hd:oi.dst=some d)
  (hc:(Region.noSelect ops&&Region.free md ops listed i&&(Region.ready md ops listed).contains i&&((aJ1 md ops L 60 i).contains L&&aS5 md ops i (aJ1 md ops L 60 i)&&aFx listed (aJ1 md ops L 60 i)))=true)
  (hQ:∀ c a w,Q (.panic c) (a.put (some d) v) w->Q (.panic c) a w) (hS:S w) (hy:YieldsIf P ops S oi v a)
  (h:aA6 P md ops Q S L fuel (listed.setIfInBounds i true) (a.put (some d) v) w):aA6 P md ops Q S L (fuel+1) listed a w:=by
 rw [Bool.and_eq_true,Bool.and_eq_true,Bool.and_eq_true] at hc;exact aA6.takeC (some d) hi hd hc.1.1.1 hc.1.1.2 hc.1.2 hc.2 hQ hS hy h
theorem aA6.startN {P:Program} {ops:Array Oper} {Q:Exit->Act->World->Prop} (S:World->Prop) (L:Nat) {id:Nat} {a:Act} {w:World} (hm:P.follows .mixedOrders=true)
  (h:aA6 P .any ops (NoPanic Q) S L ops.size (Array.replicate ops.size false) a w.drew):(Code.region id ops true).wp P Q a w :=
 wp_region_noPanic (aA6.start S L hm h)
theorem bCw {r s:Int} (hr:1<=r) (hs:1<=s):r<=r*s:=by
 have:=Int.mul_le_mul_of_nonneg_left hs (show 0<=r by omega)
 rwa [Int.mul_one] at this
theorem aMl (t:List (Int × Int)):(aE1 t).length=t.length:=by simp [aE1]
theorem aIp (T:List (List (Int × Int))):(aE2 T).length=T.length:=by simp [aE2]
theorem bD3 {t:List (Int × Int)} (h:okL t) (x:Nat):okL (t.drop x):=fun b hb=>h b (List.mem_of_mem_drop hb)
theorem bD4 {T:List (List (Int × Int))} (h:okN T) (x:Nat):okN (T.drop x):=fun b hb=>h b (List.mem_of_mem_drop hb)
theorem aQc (b:Int × Int) (bs:List (Int × Int)) (c:Int) (cs:List Int):aFr (b :: bs) (c :: cs)=if (aFr bs cs).2 then (if c<b.2 then ((c+1) :: (aFr bs cs).1,false) else (b.1 :: (aFr bs cs).1,true)) else (c :: (aFr bs cs).1,false):=rfl
theorem aQd (t:List (Int × Int)) (T:List (List (Int × Int))) (c:List Int) (C:List (List Int)):aHt (t :: T) (c :: C)=if (aHt T C).2 then ((aFr t c).1 :: (aHt T C).1,(aFr t c).2) else (c :: (aHt T C).1,false):=rfl
theorem bC1:∀ (x:Nat) (bs:List (Int × Int)) (cs:List Int),cs.length=bs.length->(aFr (bs.drop x) (cs.drop x)).2=false->aFr bs cs=(cs.take x++(aFr (bs.drop x) (cs.drop x)).1,false)
 | 0,bs,cs,_,h=>by
  simp only [List.drop_zero,List.take_zero,List.nil_append] at *
  rw [<- h]
 | x+1,[],cs,_,h=>by simp [aFr] at h
 | x+1,b :: bs,[],hl,_=>by simp at hl
 | x+1,b :: bs,c :: cs,hl,h=>by
  have ih:=bC1 x bs cs (by simpa using hl) h
  simp only [List.drop_succ_cons,List.take_succ_cons]
  rw [aQc,ih];rfl
theorem bC2:∀ (v:Nat) (T:List (List (Int × Int))) (C:List (List Int)),C.length=T.length->(aHt (T.drop v) (C.drop v)).2=false->aHt T C=(C.take v++(aHt (T.drop v) (C.drop v)).1,false)
 | 0,bs,cs,_,h=>by
  simp only [List.drop_zero,List.take_zero,List.nil_append] at *
  rw [<- h]
 | x+1,[],cs,_,h=>by simp [aHt] at h
 | x+1,b :: bs,[],hl,_=>by simp at hl
 | x+1,b :: bs,c :: cs,hl,h=>by
  have ih:=bC2 x bs cs (by simpa using hl) h
  simp only [List.drop_succ_cons,List.take_succ_cons]
  rw [aQd,ih];rfl
def aL0 (t:List (Int × Int)) (c:List Int) (x:Nat):List Int:=c.take x++(aE1 t).drop x
def aI0 (T:List (List (Int × Int))) (C:List (List Int)) (v:Nat):List (List Int):=C.take v++(aE2 T).drop v
theorem bH3 {bs:List (Int × Int)} {cs:List Int} (hin:inL bs cs) (h:(aFr bs cs).2=true):aFr bs cs=(aE1 bs,true):=by
 have:=((aU1 hin).2.1 h).2;rw [<- this,<- h]
theorem aSq {T:List (List (Int × Int))} {C:List (List Int)} (hin:inN T C) (h:(aHt T C).2=true):aHt T C=(aE2 T,true):=by
 have:=((aU2 hin).2.1 h).2;rw [<- this,<- h]
theorem aKq:∀ {bs:List (Int × Int)} {cs:List Int},inL bs cs->cs.length=bs.length
 | [],[],_=>rfl
 | [],_ :: _,h=>h.elim
 | _ :: _,[],h=>h.elim
 | _ :: _,_ :: _,h=>by simpa using aKq h.2.2
theorem aNz:∀ {bs:List (List (Int × Int))} {cs:List (List Int)},inN bs cs->cs.length=bs.length
 | [],[],_=>rfl
 | [],_ :: _,h=>h.elim
 | _ :: _,[],h=>h.elim
 | _ :: _,_ :: _,h=>by simpa using aNz h.2
theorem bCn:∀ {bs:List (Int × Int)} {cs:List Int} (x:Nat),inL bs cs->inL (bs.drop x) (cs.drop x)
 | _,_,0,h=>by simpa using h
 | [],[],_+1,_=>by simp [inL]
 | [],_ :: _,_,h=>h.elim
 | _ :: _,[],_,h=>h.elim
 | _ :: bs,_ :: cs,x+1,h=>by simpa using bCn x h.2.2
theorem bCo:∀ {bs:List (List (Int × Int))} {cs:List (List Int)} (x:Nat),inN bs cs->inN (bs.drop x) (cs.drop x)
 | _,_,0,h=>by simpa using h
 | [],[],_+1,_=>by simp [inN]
 | [],_ :: _,_,h=>h.elim
 | _ :: _,[],_,h=>h.elim
 | _ :: bs,_ :: cs,x+1,h=>by simpa using bCo x h.2
theorem aZs {t:List (Int × Int)} {c:List Int} (h:c.length=t.length):aL0 t c t.length=c:=by
 unfold aL0;rw [List.take_of_length_le (by omega),List.drop_eq_nil_of_le (by rw [aMl];exact Nat.le_refl _),List.append_nil]
theorem aZt {T:List (List (Int × Int))} {C:List (List Int)} (h:C.length=T.length):aI0 T C T.length=C:=by
 unfold aI0;rw [List.take_of_length_le (by omega),List.drop_eq_nil_of_le (by rw [aIp];exact Nat.le_refl _),List.append_nil]
theorem bE4 {t:List (Int × Int)} {c:List Int}:aL0 t c 0=aE1 t:=by simp [aL0]
theorem bE6 {T:List (List (Int × Int))} {C:List (List Int)}:aI0 T C 0=aE2 T:=by simp [aI0]
theorem aWn {T:List (List (Int × Int))} {C:List (List Int)} (h:C.length=T.length) {x:Nat} (hx:x<=T.length):(aI0 T C x).length=T.length:=by
 unfold aI0;rw [List.length_append,List.length_take,List.length_drop,aIp];omega
theorem bE3 {t:List (Int × Int)} {c:List Int} (h:c.length=t.length) {x:Nat} (hx:x<t.length):(aL0 t c (x+1)).set x t[x].1=aL0 t c x/\(aL0 t c (x+1))[x]?=some (c[x]'(by omega)):=by
 have hl:x<(aE1 t).length:=by rw [aMl];exact hx
 have hd:(aE1 t).drop x=t[x].1 :: (aE1 t).drop (x+1):=by rw [List.drop_eq_getElem_cons hl];simp [aE1]
 have ht:c.take (x+1)=c.take x++[c[x]'(by omega)]:=List.take_succ_eq_append_getElem _
 have hlen:(c.take x).length=x:=by rw [List.length_take];omega
 unfold aL0;rw [hd,ht];refine ⟨?_,?_⟩
 .rw [List.append_assoc,List.set_append_right _ _ (by omega),hlen,Nat.sub_self];rfl
 .rw [List.append_assoc,List.getElem?_append_right (by omega),hlen,Nat.sub_self];rfl
theorem bE5 {T:List (List (Int × Int))} {C:List (List Int)} (h:C.length=T.length) {x:Nat} (hx:x<T.length):(aI0 T C (x+1)).set x (aE1 T[x])=aI0 T C x/\(aI0 T C (x+1))[x]?=some (C[x]'(by omega)):=by
 have hl:x<(aE2 T).length:=by rw [aIp];exact hx
 have hd:(aE2 T).drop x=aE1 T[x] :: (aE2 T).drop (x+1):=by rw [List.drop_eq_getElem_cons hl];simp [aE2]
 have ht:C.take (x+1)=C.take x++[C[x]'(by omega)]:=List.take_succ_eq_append_getElem _
 have hlen:(C.take x).length=x:=by rw [List.length_take];omega
 unfold aI0;rw [hd,ht];refine ⟨?_,?_⟩
 .rw [List.append_assoc,List.set_append_right _ _ (by omega),hlen,Nat.sub_self];rfl
 .rw [List.append_assoc,List.getElem?_append_right (by omega),hlen,Nat.sub_self];rfl
theorem bH0 {t:List (Int × Int)} {c:List Int} (hin:inL t c) {x:Nat} (hx:x<t.length) (hc:x<c.length) (hb:(aFr (t.drop (x+1)) (c.drop (x+1))).2=true) (hlt:c[x]<t[x].2) :
  aFr t c=((aL0 t c (x+1)).set x (c[x]+1),false):=by
 have h1:=bH3 (bCn (x+1) hin) hb
 have e:aFr (t.drop x) (c.drop x)=((c[x]+1) :: aE1 (t.drop (x+1)),false):=by
  rw [List.drop_eq_getElem_cons hx,List.drop_eq_getElem_cons hc];rw [aQc];rw [h1,if_pos rfl,if_pos hlt]
 rw [bC1 x t c (aKq hin) (by rw [e]),e]
 have ht:c.take (x+1)=c.take x++[c[x]]:=List.take_succ_eq_append_getElem hc;have hlen:(c.take x).length=x:=by rw [List.length_take];omega
 unfold aL0;rw [ht,List.append_assoc,List.set_append_right _ _ (by omega),hlen,Nat.sub_self]
 simp [aE1]
theorem bNn {t:List (Int × Int)} {c:List Int} {x:Nat} (hx:x<t.length) (hc:x<c.length) (hb:(aFr (t.drop (x+1)) (c.drop (x+1))).2=true) (hlt:¬ c[x]<t[x].2) :
  (aFr (t.drop x) (c.drop x)).2=true:=by
 rw [List.drop_eq_getElem_cons hx,List.drop_eq_getElem_cons hc];rw [aQc,hb,if_pos rfl,if_neg hlt]
theorem bH2 {T:List (List (Int × Int))} {C:List (List Int)} (hin:inN T C) {v:Nat} (hv:v<T.length) (hc:v<C.length) (hb:(aHt (T.drop (v+1)) (C.drop (v+1))).2=true) (hlt:(aFr T[v] C[v]).2=false) :
  (aHt T C).1=(aI0 T C (v+1)).set v (aFr T[v] C[v]).1:=by
 have h1:=aSq (bCo (v+1) hin) hb
 have e:aHt (T.drop v) (C.drop v)=((aFr T[v] C[v]).1 :: aE2 (T.drop (v+1)),false):=by
  rw [List.drop_eq_getElem_cons hv,List.drop_eq_getElem_cons hc];rw [aQd];rw [h1,if_pos rfl,hlt]
 rw [bC2 v T C (aNz hin) (by rw [e]),e]
 have ht:C.take (v+1)=C.take v++[C[v]]:=List.take_succ_eq_append_getElem hc;have hlen:(C.take v).length=v:=by rw [List.length_take];omega
 unfold aI0;rw [ht,List.append_assoc,List.set_append_right _ _ (by omega),hlen,Nat.sub_self]
 simp [aE2]
theorem bNo {T:List (List (Int × Int))} {C:List (List Int)} {v:Nat} (hv:v<T.length) (hc:v<C.length) (hb:(aHt (T.drop (v+1)) (C.drop (v+1))).2=true) (hlt:(aFr T[v] C[v]).2=true) :
  (aHt (T.drop v) (C.drop v)).2=true:=by
 rw [List.drop_eq_getElem_cons hv,List.drop_eq_getElem_cons hc];rw [aQd,hb,if_pos rfl,hlt]
theorem bKr (t:List (Int × Int)) (c:List Int):(aFr (t.drop t.length) (c.drop t.length)).2=true:=by
 rw [List.drop_length];simp [aFr]
theorem bKs (T:List (List (Int × Int))) (C:List (List Int)):(aHt (T.drop T.length) (C.drop T.length)).2=true:=by
 rw [List.drop_length];simp [aHt]
theorem aTi:∀ {bs:List (Int × Int)} (x:Nat),okL bs->aAy (bs.drop x)<=aAy bs
 | bs,0,_=>by simp
 | [],_+1,_=>by simp
 | b :: bs,x+1,ho=>by
  obtain ⟨hb,ho'⟩:=aGl ho;have ih:=aTi x ho';have hp:=aG5 ho';have:=bCw (r:=aAy bs) (s:=b.2-b.1+1) (by omega) (by omega)
  rw [Int.mul_comm] at this;show aAy (bs.drop x)<=(b.2-b.1+1)*aAy bs
  omega
theorem aTj:∀ {T:List (List (Int × Int))} (v:Nat),okN T->aAv (T.drop v)<=aAv T
 | T,0,_=>by simp
 | [],_+1,_=>by simp
 | t :: T,x+1,ho=>by
  obtain ⟨hb,ho'⟩:=aF7 ho;have ih:=aTj x ho';have hp:=aH4 ho';have hq:=aG5 hb;have:=bCw (r:=aAv T) (s:=aAy t) (by omega) (by omega)
  rw [Int.mul_comm] at this;show aAv (T.drop x)<=aAy t*aAv T
  omega
theorem aRx {T:List (List (Int × Int))} (ho:okN T) {M:Int} (hM:aAv T<=M) {v:Nat} (hv:v<T.length) (x:Nat) :
  1<=aAy (T[v].drop x)*aAv (T.drop (v+1))/\aAy (T[v].drop x)*aAv (T.drop (v+1))<=M:=by
 have hok:okL T[v]:=ho _ (List.getElem_mem hv);have h1:=aG5 (bD3 hok x);have h2:=aH4 (bD4 ho (v+1));have h3:=aTi x hok;have h4:=aTj v ho;rw [List.drop_eq_getElem_cons hv] at h4;have h5:aAv (T[v] :: T.drop (v+1))=aAy T[v]*aAv (T.drop (v+1)):=rfl;rw [h5] at h4;have h6:=Int.mul_le_mul_of_nonneg_right h3 (Int.le_of_lt h2);have h7:=Int.mul_pos h1 h2;omega
def aDn:Nat->(Nat->Nat)->Nat
 | 0,_=>0
 | n+1,f=>aDn n f+f n
theorem aH5 {n:Nat} {f g:Nat->Nat} (h:∀ i,i<n->f i<=g i):aDn n f<=aDn n g:=by
 induction n with
 | zero=>exact Nat.le_refl _
 | succ n ih =>
  have h1:=ih (fun i hi=>h i (by omega))
  have h2:=h n (by omega)
  simp only [aDn];omega
theorem bDq (n:Nat) (f g:Nat->Nat):aDn n (fun i=>f i+g i)=aDn n f+aDn n g:=by
 induction n with
 | zero=>rfl
 | succ n ih=>simp only [aDn,ih];omega
theorem aOr {n:Nat} {f g:Nat->Nat} (h:∀ i,i<n->f i=g i):aDn n f=aDn n g:=by
 induction n with
 | zero=>rfl
 | succ n ih=>simp only [aDn];rw [ih (fun i hi=>h i (by omega)),h n (by omega)]
theorem aGt (n k:Nat):aDn n (fun _=>k)=n*k:=by
 induction n with
 | zero=>simp [aDn]
 | succ n ih=>simp only [aDn,ih];rw [Nat.succ_mul]
theorem aKa {n j d:Nat} {f g:Nat->Nat} (hj:j<n) (h:∀ i,i<n->f i<=g i) (hd:f j+d<=g j):aDn n f+d<=aDn n g:=by
 induction n with
 | zero=>omega
 | succ n ih =>
  simp only [aDn]
  by_cases hjn:j=n
  .subst hjn
   have:=aH5 (n:=j) (f:=f) (g:=g) (fun i hi=>h i (by omega))
   omega
  .have h1:=ih (by omega) (fun i hi=>h i (by omega))
   have h2:=h n (by omega)
   omega
theorem bJz {n j d:Nat} {f g:Nat->Nat} (h:∀ i,i<n->i≠j->f i<=g i) (hd:f j<=g j+d):aDn n f<=aDn n g+d:=by
 induction n with
 | zero=>simp [aDn]
 | succ n ih =>
  simp only [aDn]
  by_cases hjn:j=n
  .subst hjn
   have:=aH5 (n:=j) (f:=f) (g:=g) (fun i hi=>h i (by omega) (by omega))
   omega
  .have h1:=ih (fun i hi hne=>h i (by omega) hne)
   have h2:=h n (by omega) (fun e=>hjn e.symm)
   omega
section
variable (A:Nat->List Nat)
def nbM (m:Nat->Bool) (v:Nat):Bool:=(A v).any m
def aDw (m:Nat->Bool) (v:Nat):Nat:=if m v then (if nbM A m v then 2 else 0) else if (A v).any (fun u=>m u && !nbM A m u) then 0 else 1
def aDj (m T:Nat->Bool) (v:Nat):Bool:=if T v then !m v else m v
theorem bJa (m:Nat->Bool) (v:Nat):aDw A m v<=2:=by unfold aDw;split <;> split <;> omega
variable {A}
theorem aMu {m:Nat->Bool} {v:Nat} (h:nbM A m v=false):∀ u∈A v,m u=false:=by
 unfold nbM at h;rw [List.any_eq_false] at h;intro u hu
 simpa using h u hu
theorem bIh {m:Nat->Bool} {v u:Nat} (hu:u∈A v) (hm:m u=true):nbM A m v=true:=List.any_eq_true.2 ⟨u,hu,hm⟩
theorem aKt {m:Nat->Bool} {v:Nat} (h:∀ u∈A v,m u=false):nbM A m v=false:=by
 unfold nbM;rw [List.any_eq_false];intro u hu
 simp [h u hu]
structure StepM (A:Nat->List Nat) (m T:Nat->Bool):Prop where
 sym:∀ v u,u∈A v->v∈A u
 en:∀ v,T v=true->m v=nbM A m v
 ind:∀ v u,T v=true->u∈A v->T u=false
theorem StepM.stable {m T:Nat->Bool} (h:StepM A m T) {v:Nat} (hm:m v=true) (hn:nbM A m v=false):T v=false/\aDj m T v=true/\nbM A (aDj m T) v=false:=by
 have hT:T v=false:=by
  cases ht:T v with
  | false=>rfl
  | true=>have:=h.en v ht;rw [hm,hn] at this;cases this
 refine ⟨hT,by simp [aDj,hT,hm],aKt fun u hu=>?_⟩
 have h1:=aMu hn u hu
 have h2:T u=false:=by
  cases ht:T u with
  | false=>rfl
  | true =>
   have:=h.en u ht;rw [h1,bIh (h.sym v u hu) hm] at this;cases this
 simp [aDj,h2,h1]
theorem StepM.enter {m T:Nat->Bool} (h:StepM A m T) {v:Nat} (hT:T v=true) (hm:m v=false):nbM A (aDj m T) v=false:=by
 have hn:nbM A m v=false:=by rw [<- h.en v hT,hm]
 refine aKt fun u hu=>?_
 simp [aDj,h.ind v u hT hu,aMu hn u hu]
theorem StepM.pot {m T:Nat->Bool} (h:StepM A m T) (v:Nat):aDw A (aDj m T) v+(if T v then 1 else 0)<=aDw A m v:=by
 have hle:=bJa A (aDj m T) v;cases hT:T v with
 | true =>
  rw [if_pos rfl];cases hm:m v with
  | true =>
   have hn:nbM A m v=true:=by rw [<- h.en v hT,hm]
   have h1:aDw A m v=2:=by simp [aDw,hm,hn]
   have h2:aDj m T v=false:=by simp [aDj,hT,hm]
   have h3:aDw A (aDj m T) v<=1:=by unfold aDw;rw [h2];simp;split <;> omega
   omega
  | false =>
   have hn:nbM A m v=false:=by rw [<- h.en v hT,hm]
   have h1:aDw A m v=1:=by
    unfold aDw;rw [hm,if_neg (by simp),if_neg]
    rw [List.any_eq_true];rintro ⟨u,hu,hx⟩;rw [aMu hn u hu] at hx;cases hx
   have h2:aDj m T v=true:=by simp [aDj,hT,hm]
   have h3:aDw A (aDj m T) v=0:=by
    unfold aDw;rw [h2,h.enter hT hm];rfl
   omega
 | false =>
  rw [if_neg (by simp)]
  have hf:aDj m T v=m v:=by simp [aDj,hT]
  cases hm:m v with
  | true =>
   cases hn:nbM A m v with
   | true =>
    have:aDw A m v=2:=by simp [aDw,hm,hn]
    omega
   | false =>
    obtain ⟨_,h2,h3⟩:=h.stable hm hn;have:aDw A (aDj m T) v=0:=by unfold aDw;rw [h2,h3];rfl
    omega
  | false =>
   rw [hm] at hf;have h3:aDw A (aDj m T) v<=1:=by unfold aDw;rw [hf];simp;split <;> omega
   by_cases hd:(A v).any (fun u=>m u && !nbM A m u)=true
   .obtain ⟨u,hu,hx⟩:=List.any_eq_true.1 hd
    simp at hx
    obtain ⟨_,g2,g3⟩:=h.stable hx.1 hx.2
    have:aDw A (aDj m T) v=0:=by
     unfold aDw;rw [hf,if_neg (by simp),if_pos]
     rw [List.any_eq_true];exact ⟨u,hu,by rw [g2,g3];rfl⟩
    omega
   .have:aDw A m v=1:=by unfold aDw;rw [hm,if_neg (by simp),if_neg hd]
    omega
theorem StepM.leave {m T:Nat->Bool} (h:StepM A m T) {v:Nat} (hm:aDj m T v=true) (hn:nbM A (aDj m T) v=true):T v=false/\m v=true/\nbM A m v=true:=by
 cases hT:T v with
 | true =>
  have hm0:m v=false:=by simpa [aDj,hT] using hm
  rw [h.enter hT hm0] at hn;cases hn
 | false =>
  have hm0:m v=true:=by simpa [aDj,hT] using hm
  refine ⟨rfl,hm0,?_⟩
  cases hx:nbM A m v with
  | true=>rfl
  | false=>rw [(h.stable hm0 hx).2.2] at hn;cases hn
theorem StepM.noNew {m T:Nat->Bool} (h:StepM A m T) (hc:∀ v,¬ (m v=true/\nbM A m v=true)) {v:Nat} (he:aDj m T v=nbM A (aDj m T) v):T v=false/\m v=nbM A m v:=by
 cases hf:aDj m T v with
 | true =>
  rw [hf] at he;exact absurd ((h.leave hf he.symm).2) (hc v)
 | false =>
  rw [hf] at he
  have hT:T v=false:=by
   cases ht:T v with
   | false=>rfl
   | true =>
    have hm:m v=true:=by simpa [aDj,ht] using hf
    exact absurd ⟨hm,by rw [<- h.en v ht,hm]⟩ (hc v)
  have hm:m v=false:=by simpa [aDj,hT] using hf
  refine ⟨hT,?_⟩
  rw [hm];symm
  refine aKt fun u hu=>?_
  have h1:=aMu he.symm u hu;cases hu1:m u with
  | false=>rfl
  | true =>
   cases ht:T u with
   | true=>exact absurd ⟨hu1,by rw [<- h.en u ht,hu1]⟩ (hc u)
   | false=>simp [aDj,ht,hu1] at h1
end
open Go.ChangeShapes Go.WideShapes Go.ChangeAt Go.RowKit Go.Deep
theorem Tryz.own:ownKnob prog.godebug=none:=by kernel_rfl
theorem Tryz.laidOut:laidOutB prog=true:=by kernel_rfl
theorem Tryz.cells_int:prog.cellsOf 3=1:=by kernel_rfl
section
variable {H:Type} {enc:TypeId × Value->H} {P:Program} {w:World} {base:Nat} {spare:Nat->Bool} {held:Bool}
theorem bL3 {w:World} {a:Addr} {v:Value} (h:w.cell? a=some v):a.block<w.heap.size/\a.spot=none:=by
 unfold World.cell? at h;split at h
 .rename_i c e f hh
  refine ⟨?_,?_⟩
  .rcases Nat.lt_or_ge a.block w.heap.size with hlt | hge
   .exact hlt
   .rw [Array.getElem?_eq_none hge] at hh;cases hh
  .cases hs:a.spot with
   | none=>rfl
   | some s=>rw [hs] at h;simp at h
 .cases h
theorem bC0 {b o k:Nat}:(⟨b,o,none⟩:Addr).add k=⟨b,o+k,none⟩:=by
 unfold Addr.add;split
 .rename_i h;subst h;rfl
 .rfl
theorem aRg {α:Type} [Inhabited α] {t e:TypeId} {size:Nat} {E:World->Nat->Nat->α->Prop} {Good:α->Prop} (ht:P.underlying t=some (.slice e)) (hC:P.cellsOf e=size) (hsz:0<size)
  (hE:∀ n cs y b o,(∀ j,j<size->w.cell? ⟨b,o+j,none⟩=cs[j]?)->cs.length=size->DataW.trod enc P w base spare held n e cs=some y->∃ x,E w b o x/\Good x)
  {fuel:Nat} {cs:List Value} {x:DataW H × List MemPlace} (h:DataW.trod enc P w base spare held fuel t cs=some x) :
  ∃ (A:Option Addr) (n c:Nat) (xs:List α),cs=[.slice A n c]/\aAc size E w A n xs/\(∀ x∈xs,Good x)/\n<=c/\c<=maxLen:=by
 rcases open_slice ht h with ⟨hcs,_⟩ | ⟨a,len,cap,m,n,D,Pl,hcs,hb,hl,hm,hmm,hx,hi⟩
 .exact ⟨none,0,0,[],hcs,aAc.nil,fun _ h=>by simp at h,Nat.le_refl _,by unfold maxLen;omega⟩
 .have hlm:len<=m:=by rw [hmm];split <;> omega
  rw [hC] at hi
  rcases Nat.eq_zero_or_pos len with h0 | h0
  .subst h0
   exact ⟨some a,0,cap,[],hcs,aAc.nil,fun _ h=>by simp at h,hl,hm⟩
  .have ha:a=⟨a.block,a.off,none⟩/\a.block<w.heap.size:=by
    obtain ⟨cs',hc,_⟩:=hi 0 (by omega)
    obtain ⟨_,hcl,hat⟩:=World.cells?_some hc;have h1:=hat 0 (by omega)
    rw [List.getElem?_eq_getElem (by omega)] at h1
    simp [Addr.add] at h1
    obtain ⟨h2,h3⟩:=bL3 h1;exact ⟨by rw [<- h3],h2⟩
   obtain ⟨hae,hab⟩:=ha;generalize a.block=b at *;generalize a.off=o at *;subst hae
   have hch:∀ i,i<len->∃ x,E w b (o+i*size) x/\Good x:=by
    intro i hi'
    obtain ⟨cs',hc,htr⟩:=hi i (by omega)
    obtain ⟨_,hcl,hat⟩:=World.cells?_some hc;refine hE n cs' _ b (o+i*size) (fun j hj=>?_) hcl htr
    have:=hat j hj;rw [bC0,bC0] at this;exact this
   obtain ⟨f,hf⟩:=choose_lt hch;refine ⟨some ⟨b,o,none⟩,len,cap,(List.range len).map f,hcs,⟨by simp,fun i x hx=>?_⟩,fun x hx=>?_,hl,hm⟩
   .have hil:i<len:=by
     have:=(List.getElem?_eq_some_iff.1 hx).1;simpa using this
    rw [List.getElem?_map,List.getElem?_range hil] at hx;simp at hx
    subst hx;exact ⟨b,o,rfl,hab,(hf i hil).1⟩
   .obtain ⟨i,hi',rfl⟩:=List.mem_map.1 hx
    exact (hf i (List.mem_range.1 hi')).2
def bNf (x:Int):Prop := -9223372036854775808<=x/\x<=9223372036854775807
theorem bAf {x:Int} (h:(Lit.int .i64 x).wf=true):bNf x:=by
 simpa [bNf,Lit.wf,IntKind.min,IntKind.max,IntKind.signed,IntKind.bits] using h
theorem bB0 {e:TypeId} (he:P.underlying e=some (.int .i64)):∀ n cs y b o,(∀ j,j<1->w.cell? ⟨b,o+j,none⟩=cs[j]?)->cs.length=1->DataW.trod enc P w base spare held n e cs=some y->∃ x,aJd w b o x/\bNf x:=by
 intro n cs y b o hat hl h
 obtain ⟨x,rfl,_,hwf⟩:=DataW.trod_int he h;refine ⟨x,?_,bAf hwf⟩
 have:=hat 0 (by omega)
 simpa [aJd] using this
end
section
variable {H:Type} {enc:TypeId × Value->H} {P:Program}
theorem aNc (hl:laidOutB P=true) {W W':World} {sp:Nat->Bool} (hb:Below W.heap.size W W'):∀ {ts:List TypeId} {vs:List Value} {ds:List (DataW H)} {ps:List MemPlace},
  (∀ t∈ts,P.readableRec t=true/\t<P.types.size)->DataW.TrodAll enc P W 0 (fun _=>true) true ts vs ds ps->(∀ x∈ps,x.block<W.heap.size)->(∀ x∈ps,sp x.block=true)->DataW.TrodAll enc P W' 0 sp true ts vs ds ps
 | [],vs,ds,ps,_,h,_,_=>by
  obtain ⟨rfl,rfl,rfl⟩:=trodAll_nil h;exact trodAll_mk0
 | t :: ts,vs,ds,ps,hr,h,hlt,hsp=>by
  obtain ⟨v,vs',d,ds',p,q,rfl,rfl,rfl,hd,hrest⟩:=trodAll_cons h;refine trodAll_cons_mk ?_ (aNc hl hb (fun t ht=>hr t (by simp [ht])) hrest (fun x hx=>hlt x (by simp [hx])) (fun x hx=>hsp x (by simp [hx])))
  exact WideElems.Trod_stays hl (hr t (by simp)).1 (hr t (by simp)).2 hd (fun x hx=>hb.same (hlt x (by simp [hx]))) (fun x hx=>hsp x (by simp [hx]))
theorem bCt {f:Func} {s:ChangeSpec} {apart fresh handsOn again:Bool} {W W':World} {args:Array Value} {ds gs:List (DataW H)} {before:List MemPlace} {tb:TypeId}
  (hl:laidOutB P=true) (hvs:s.vars=[]) (hr0:(f.params.toList.all fun t=>P.readableRec t&&decide (t<P.types.size))=true) (hres:f.resultTypes=#[tb]) (htb:P.underlying tb=some .bool)
  (hW:DataW.Whole enc P f.params.toList s.vars apart W args.toList ds gs before)
  (hfn:(s.fn H (ds++gs)).results=[.lit (.bool true)]/\(s.fn H (ds++gs)).args=ds/\(s.fn H (ds++gs)).vars=[])
  (hb:Bel W W'):s.post enc P f apart fresh handsOn again W args (.bool true) W':=by
 have hr:∀ t∈f.params.toList,P.readableRec t=true/\t<P.types.size:=fun t ht=>by
  have:=List.all_eq_true.1 hr0 t ht;simpa using this
 have hb':Below W.heap.size W W':=hb;have hlt:∀ p∈before,p.block<W.heap.size:=fun p hp=>hW.lt p hp;have hold:∀ p∈before,(fun b=>decide (b<W.heap.size)) p.block=true:=fun p hp=>by simpa using hlt p hp
 have hWh:=hW;obtain ⟨pa,pv,hA,hV,hps,hz,hn⟩:=hW;rw [hvs] at hV;obtain ⟨hg,hpv⟩:=trodVars_none hV;subst hg;subst hpv;have hps':before=pa:=by simpa using hps
 subst hps'
 have hargs:∀ sp:Nat->Bool,(∀ p∈before,sp p.block=true)->DataW.TrodAll enc P W' 0 sp true f.params.toList args.toList (s.fn H (ds++[])).args before:=fun sp hsp=>by
  rw [hfn.2.1];exact aNc hl hb' hr hA hlt hsp
 have hvars:∀ sp:Nat->Bool,DataW.TrodVars enc P W' sp s.vars (s.fn H (ds++[])).vars []:=fun sp=>by
  rw [hvs,hfn.2.2];exact rfl
 have hresT:∀ (b:Nat) (sp:Nat->Bool) (hd:Bool),DataW.TrodAll enc P W' b sp hd f.resultTypes.toList ((Value.bool true).resultList f.resultTypes.size) (s.fn H (ds++[])).results []:=fun b sp hd=>by
  rw [hres,hfn.1];exact trodAll_cons_mk (shut_bool htb _) trodAll_mk0
 refine ⟨ds,[],before,[],before,[],hWh,hresT _ _ _,hargs _ hold,hvars _,World.keptBut_mono (fun p hp=>⟨hp,?_⟩) (hb'.frame (·∈before)),fun _=>?_⟩
 .right;simpa using hp
 .refine ⟨ok_one hres rfl (okWide_bool_mk htb _),_,_,([]++before)++[],⟨[]++before,[],trodAll_append (hargs _ (fun _ _=>rfl)) (hresT _ _ _),hvars _,rfl,?_,?_⟩,?_⟩
  .intro b off hp
   have hin:MemPlace.cell b off∈before:=by simpa using hp
   rw [hb'.frozen (hlt _ hin)];exact hz b off hin
  .intro ha
   have:=hn ha;simpa using this
  .intro p hp _
   simpa using hp
end
theorem aOt {H:Type} {enc:TypeId × Value->H} {P:Program} {w:World} {base:Nat} {spare:Nat->Bool} {held:Bool} {m i n:Nat} {f:TypeId} {cs us:List Value} {xs:List (DataW H × List MemPlace)}
  (h:DataW.trod enc P w base spare held m f cs=xs[i]?) (hl:xs.length=n) (hi:i<n) (hcs:cs=us):∃ y,DataW.trod enc P w base spare held m f us=some y:=by
 subst hcs;rw [List.getElem?_eq_getElem (by omega)] at h
 exact ⟨_,h⟩
end Go.Proofs.YtmoebklkkjbigaaGreatDoor

