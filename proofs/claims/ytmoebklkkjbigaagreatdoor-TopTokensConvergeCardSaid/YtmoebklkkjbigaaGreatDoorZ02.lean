/- Merged. -/

set_option linter.unusedSimpArgs false
set_option linter.unnecessarySimpa false
set_option linter.unusedVariables false
set_option maxRecDepth 100000

namespace Go.Proofs.YtmoebklkkjbigaaGreatDoor
def tabK3:Nat:=0x28042288024084002042000001140211440008a21010200000108a000845100451080800000
def tabK4:Nat:=0x3004211840108c21004a108404252949c0318d25214a929485694a5221294a524294a718063494a42b4a5291094a529214a54948529c6300e252948c6b5ad690a52b4a4295a5290ab18c6002c631b58d6b4ad214a5694852b4a52014210800000023004211840108c21008d294a94252919c0319525214a929484694a54a129495242946718065494a4244a52a5094a4a9214a54948519c630006718ca4894a94a12929524294a929085694a302c636b58d694ad214a569480118421014210000000423004211840215252948d295294252319c0329525210a9294a4694a94a1292952428c671800319c65215252948d2a529424a52a4842952518067194a4895294a12529524214ad294856946302c6d6b58d294ad200423084011842101420000000842300852a4a5215252948d2a5294246319c0018c67290a5494a42a4a5291a94a528214a548c0319ca5215252948d4a529410a52a4a42952318067294a48a5294a085295a5214ad2948568c6302dad6b580108461004230840118421014000000
def fK3 (a b c:Nat):Nat:=(tabK3 >>> (5*(16*a+4*b+c))) % 32
def fK4 (a b c d:Nat):Nat:=(tabK4 >>> (5*(125*a+25*b+5*c+d))) % 32
def cK3 (a b c:Nat):Nat:=(a==c).toNat+(b != a).toNat+(c != b).toNat
def cK4 (a b c d:Nat):Nat:=(a==d).toNat+(b != a).toNat+(c != b).toNat+(d != c).toNat
def boolsK:List Bool:=[false,true]
theorem aFh (b:Bool):b∈boolsK:=by cases b <;> decide
def goK3 (a b c:Nat) (p q r:Bool):Bool :=
 bif (p||q||r)&&(!p||a==c)&&(!q||b != a)&&(!r||c != b) then
  bif cK3 a b c==1 then cK3 (bif p then (a+1) % 4 else a) (bif q then a else b) (bif r then b else c)==1
  else Nat.ble (p.toNat+q.toNat+r.toNat+fK3 (bif p then (a+1) % 4 else a) (bif q then a else b) (bif r then b else c)) (fK3 a b c)
 else true
def goK4 (a b c d:Nat) (p q r s:Bool):Bool :=
 bif (p||q||r||s)&&(!p||a==d)&&(!q||b != a)&&(!r||c != b)&&(!s||d != c) then
  bif cK4 a b c d==1 then cK4 (bif p then (a+1) % 5 else a) (bif q then a else b) (bif r then b else c) (bif s then c else d)==1
  else Nat.ble (p.toNat+q.toNat+r.toNat+s.toNat+fK4 (bif p then (a+1) % 5 else a) (bif q then a else b) (bif r then b else c) (bif s then c else d)) (fK4 a b c d)
 else true
def atK3 (a b c:Nat):Bool:=Nat.ble 1 (cK3 a b c)&&Nat.ble (fK3 a b c) 12&&boolsK.all fun p=>boolsK.all fun q=>boolsK.all fun r=>goK3 a b c p q r
def atK4 (a b c d:Nat):Bool:=Nat.ble 1 (cK4 a b c d)&&Nat.ble (fK4 a b c d) 20&&boolsK.all fun p=>boolsK.all fun q=>boolsK.all fun r=>boolsK.all fun s=>goK4 a b c d p q r s
theorem allK3:((List.range 4).all fun a=>(List.range 4).all fun b=>(List.range 4).all fun c=>atK3 a b c)=true:=by decide +kernel
theorem allK4:((List.range 5).all fun a=>(List.range 5).all fun b=>(List.range 5).all fun c=>(List.range 5).all fun d=>atK4 a b c d)=true:=by decide +kernel
theorem bO1 {a b c:Nat} (ha:a<4) (hb:b<4) (hc:c<4):1<=cK3 a b c/\fK3 a b c<=12/\∀ p q r,goK3 a b c p q r=true:=by
 have h:=allK3;simp only [List.all_eq_true,List.mem_range] at h
 have h:=h a ha b hb c hc;unfold atK3 at h;simp only [Bool.and_eq_true,List.all_eq_true] at h
 exact ⟨Nat.le_of_ble_eq_true h.1.1,Nat.le_of_ble_eq_true h.1.2,fun p q r=>h.2 p (aFh p) q (aFh q) r (aFh r)⟩
theorem bO2 {a b c d:Nat} (ha:a<5) (hb:b<5) (hc:c<5) (hd:d<5):1<=cK4 a b c d/\fK4 a b c d<=20/\∀ p q r s,goK4 a b c d p q r s=true:=by
 have h:=allK4;simp only [List.all_eq_true,List.mem_range] at h
 have h:=h a ha b hb c hc d hd;unfold atK4 at h;simp only [Bool.and_eq_true,List.all_eq_true] at h
 exact ⟨Nat.le_of_ble_eq_true h.1.1,Nat.le_of_ble_eq_true h.1.2,fun p q r s=>h.2 p (aFh p) q (aFh q) r (aFh r) s (aFh s)⟩
end Go.Proofs.YtmoebklkkjbigaaGreatDoor

