/- Merged. -/
import Derived.Test.YtdcjnhoabbdanaaGreatDoorZ16
import Derived.JoinedOf
import Derived.Test.YtdcjnhoabbdanaaGreatDoorTie
import Derived.Test.YtdcjnhoabbdanaaGreatDoorCards
import Derived.SevenTiedAt
set_option linter.unusedSimpArgs false
set_option linter.unnecessarySimpa false
set_option linter.unusedVariables false
set_option maxRecDepth 100000
set_option maxHeartbeats 2000000
open Go.Proofs.Tryz

namespace Go.Proofs.YtdcjnhoabbdanaaGreatDoor
open Go.RowKit
theorem aWi (f:FuncId) (caps:Array Value) (hp:Nat->Bool) (n:Nat) (w:World)
  (hf:∀ v w',v<n->Bel w w'->Calls prog f (#[.int .i64 (v:Int)]++caps) w' fun e w2=>e = .returned (.bool (hp v))/\Bel w' w2)
  (hcall:∀ a w',(callFunc f (#[a]++caps)).run prog w' = .ok (.enter f (#[a]++caps)) w') (hn:n<=24) :
  Calls prog 106 #[.int .i64 (n:Int),.func (.func f) #[] caps] w fun e w'=>e = .returned (.int .u32 (aD7 n hp:Nat))/\Bel w w':=by
 have HF:=aA0 hf;clear hf;go_enter func106,ntmps106
 go_wp2_with fail
 have HB:=Bel.refl w
 go_loopg [5,6,8] n (fun m s _x z wr=>∃ v:Nat,v<=n/\m=n-v/\z = .int .i64 v/\s = .int .u32 (aD7 v hp:Nat)/\Bel w wr)
 case atStart=>exact ⟨0,by omega,rfl,rfl,rfl,HB⟩
 case round =>
  clear HB;obtain ⟨v,hv,rfl,rfl,rfl,HB⟩:=hrel
  by_cases hlt:v<n
  .have hd0:decide (v<n)=true:=by simpa using hlt
   have hsl:=aGa hp (show v<=32 by omega)
   cases hb:hp v with
   | true =>
    go_wp2_with (((with_reducible refine (HF.out _ _ hlt HB).mono ?_);rintro e w' ⟨rfl,hbb⟩;rw [hb];replace HB:=HB.trans hbb;clear hbb))
    go_roundg (n-(v+1))
    case rel=>exact ⟨v+1,by omega,rfl,by go_num,by rw [aFb,hb,if_pos rfl,aGh hsl (by omega)],HB⟩
    case measure=>omega
   | false =>
    go_wp2_with (((with_reducible refine (HF.out _ _ hlt HB).mono ?_);rintro e w' ⟨rfl,hbb⟩;rw [hb];replace HB:=HB.trans hbb;clear hbb))
    go_roundg (n-(v+1))
    case rel=>exact ⟨v+1,by omega,rfl,by go_num,by rw [aFb,hb];rfl,HB⟩
    case measure=>omega
  .have hd0:decide (v<n)=false:=by simpa using hlt
   obtain rfl:v=n:=by omega
   go_wp2_with fail
   go_ret;exact ⟨rfl,HB⟩
theorem aK8 (S:Nat) (x:Int) (w:World) (hS:S<4294967296) :
  Calls prog 55 #[.int .u32 (S:Int),.int .i64 x] w fun e w'=>e = .returned (.bool (aP1 S x))/\w=w':=by
 have HF:Hid (aP1 S x=(decide (0<=x)&&decide (x<32)&&S.testBit x.toNat)):=rfl
 by_cases h0:0<=x
 .have d0:decide (0<=x)=true:=by simpa using h0
  rw [d0] at HF;obtain ⟨v,rfl⟩:=Int.eq_ofNat_of_zero_le h0
  by_cases h1:v<32
  .have d1:decide ((v:Int)<32)=true:=by simp;omega
   have d2:decide (v<32)=true:=by simpa using h1
   rw [d1,Int.toNat_natCast] at HF;clear h0;have hq:=aRy (v:=v) hS;go_enter func55,ntmps55
   go_wp2_with fail
   go_ret;exact ⟨aA2 (by rw [HF.out];simp [aXa]),rfl⟩
  .have d1:decide ((v:Int)<32)=false:=by simp;omega
   have d2:decide (v<32)=false:=by simpa using h1
   rw [d1] at HF;clear h0;go_enter func55,ntmps55
   go_wp2_with fail
   go_ret;exact ⟨aA2 (by rw [HF.out];simp),rfl⟩
 .have d0:decide (0<=x)=false:=by simpa using h0
  rw [d0] at HF;go_enter func55,ntmps55
  go_wp2_with fail
  go_ret;exact ⟨aA2 (by rw [HF.out];simp),rfl⟩
def aD8 (w:World):Prop:=0<w.heap.size/\∀ i,i<32->w.cell? ⟨0,i,none⟩=some (.int .u8 ((bruijn.getD i 0:Nat):Int))
theorem aD8.keep {w w':World} (h:aD8 w) (k:Bel w w'):aD8 w':=⟨Nat.lt_of_lt_of_le h.1 k.size,fun i hi=>(k.cell h.1).trans (h.2 i hi)⟩
theorem aZp {S:Nat} (h0:S≠0) (hS:S<4294967296) : -(S:Int) % 4294967296=((4294967296-S:Nat):Int):=by omega
theorem aT5 {S:Nat} (hS:S<4294967296) (h0:S≠0):bits .and .u32 (S:Int) (-(S:Int) % 4294967296)=((lsb S:Nat):Int):=by
 rw [aZp h0 hS,aCm hS (by omega)];rfl
theorem aPv {k:Nat} (hk:k<32):∃ J:Nat,J<32/\((2 ^ k:Nat):Int)*125613361 % 4294967296 / 134217728=(J:Int)/\bruijn.getD J 0=k:=by
 have h:=aVs k hk;refine ⟨2 ^ k*125613361 % 4294967296 / 134217728,?_,by omega,?_⟩
 .omega
 .rw [List.getD_eq_getElem?_getD,h];rfl
theorem bAf (S:Nat) (k m:Nat) (w:World) (hT:aD8 w) (hS:S<4294967296) (e:S=2 ^ k*(2*m+1)) :
  Calls prog 120 #[.int .u32 (S:Int)] w fun e w'=>e = .returned (.int .i64 (k:Int))/\w=w':=by
 have h0:S≠0:=by rw [e];exact Nat.ne_of_gt (Nat.mul_pos (Nat.two_pow_pos k) (by omega))
 have hb:((S:Int)==0)=false:=by simp;omega
 have hlt:=hT.1;obtain ⟨k',m',e',hk,hl,_⟩:=aJz hS h0
 obtain rfl:k=k':=by
  have h1:=aIs (k:=k) (m:=m) (by rw [<- e];exact hS)
  have h2:=aIs (k:=k') (m:=m') (by rw [<- e'];exact hS)
  rw [<- e] at h1;rw [<- e',h1] at h2;injection h2
 have q1:=aT5 hS h0;rw [hl] at q1;obtain ⟨J,hJ,q2,hv⟩:=aPv hk;have hc:=hT.2 J hJ;rw [hv] at hc;generalize 2 ^ k=P at q1 q2;have dJ:decide (J<32)=true:=by simpa using hJ
 clear e e' hl hv hT h0 hS hJ;go_enter func120,ntmps120
 go_wp2_with fail
 go_ret;exact ⟨rfl,rfl⟩
theorem aOo {x:Nat} (h:x<4294967296):bits .and .u32 (x:Int) 255=((x % 256:Nat):Int):=by
 rw [show (255:Int)=((255:Nat):Int) from rfl,aCm h (by decide),Nat.and_two_pow_sub_one_eq_mod x 8]
theorem aYk (S:Nat) (w:World) (hS:S<4294967296) :
  Calls prog 113 #[.int .u32 (S:Int)] w fun e w'=>e = .returned (.int .i64 ((aAf S).length:Int))/\Bel w w':=by
 obtain ⟨b0,hb0⟩:∃ b:Nat,b=S % 256:=⟨_,rfl⟩;obtain ⟨b1,hb1⟩:∃ b:Nat,b=S / 256 % 256:=⟨_,rfl⟩;obtain ⟨b2,hb2⟩:∃ b:Nat,b=S / 65536 % 256:=⟨_,rfl⟩;obtain ⟨b3,hb3⟩:∃ b:Nat,b=S / 16777216:=⟨_,rfl⟩;have q0:bits .and .u32 (S:Int) 255=(b0:Int):=by rw [aOo hS,hb0]
 have q1:bits .and .u32 ((S:Int) / 256) 255=(b1:Int):=by
  rw [show (S:Int) / 256=((S / 256:Nat):Int) by omega,aOo (by omega),hb1]
 have q2:bits .and .u32 ((S:Int) / 65536) 255=(b2:Int):=by
  rw [show (S:Int) / 65536=((S / 65536:Nat):Int) by omega,aOo (by omega),hb2]
 have q3:(S:Int) / 16777216=(b3:Int):=by omega
 have l0:(b0:Int)<=255:=by omega
 have l1:(b1:Int)<=255:=by omega
 have l2:(b2:Int)<=255:=by omega
 have l3:(b3:Int)<=255:=by omega
 have i0:b0<=255:=by omega
 have i1:b1<=255:=by omega
 have i2:b2<=255:=by omega
 have i3:b3<=255:=by omega
 have HB:=aA0 (And.intro hb0 (And.intro hb1 (And.intro hb2 hb3)));clear hb0 hb1 hb2 hb3;go_enter func113,ntmps113;simp only [List.append_eq,List.cons_append,List.nil_append,Lib.fold_pop8tab]
 go_wp2
 go_region
 go_wp2;go_ret;refine ⟨aA4 ?_,(Bel.refl w).drew⟩
 obtain ⟨e0,e1,e2,e3⟩:=HB.out;rw [aPb (by omega),aPb (by omega),aPb (by omega),aPb (by omega),aS6 hS,e0,e1,e2,e3]
 have h0:=aOp (S % 256);have h1:=aOp (S / 256 % 256);have h2:=aOp (S / 65536 % 256);have h3:=aOp (S / 16777216);omega
section
variable {P:Program} {ops:Array Oper} {Q:Exit->Act->World->Prop} {md:Region.Mode} {S:World->Prop} {Ls:List Nat}
def aDz (P:Program) (md:Region.Mode) (ops:Array Oper) (Q:Exit->Act->World->Prop) (S:World->Prop) (Ls:List Nat):Nat->Array Bool->Act->World->Prop
 | 0,listed,a,w=>Region.ready md ops listed=[]/\Q .normal a w
 | fuel+1,listed,a,w=>(Region.ready md ops listed=[]->Q .normal a w) /\
   ∀ i∈Region.ready md ops listed,wpOp P ops Q i (fun a' w'=>(i ∉ Ls->S w')/\aDz P md ops Q S Ls fuel (listed.setIfInBounds i true) a' w') a w
theorem aDz.any:∀ (fuel:Nat) (listed:Array Bool) (a:Act) (w:World),aDz P md ops Q S Ls fuel listed a w->wpAny P md ops Q fuel listed a w
 | 0,_,_,_,h=>h
 | fuel+1,_,_,_,h=>⟨h.1,fun i hi=>wpOp_mono (fun a' w' k=>aDz.any fuel _ a' w' k.2) (h.2 i hi)⟩
theorem aDz.first {i:Nat} {oi:Oper} {v:Value} (cs:List Nat) (hi:ops[i]?=some oi) (hsel:∀ (j:Nat) (o:Oper) cs b,ops[j]?=some o->o.op ≠ .select cs b)
  (hL:∀ l∈Ls,l∈cs) (hw:aLa md ops i cs=true)
  (hQ:∀ c a w,Q (.panic c) (a.put oi.dst v) w->Q (.panic c) a w) (fuel:Nat):∀ (listed:Array Bool) (a:Act) (w:World),
   (∀ j oj,ops[j]?=some oj->j≠i->listed.getD j true=false->(∀ e∈oj.after,Region.binds md e=true->e.on≠i)->oi.apart ops oj=true) ->
   i∈Region.ready md ops listed->aE9 listed cs=true->YieldsIf P ops S oi v a->S w ->
   aDz P md ops Q S Ls fuel (listed.setIfInBounds i true) (a.put oi.dst v) w->aDz P md ops Q S Ls (fuel+1) listed a w:=by
 induction fuel with
 | zero =>
  intro listed a w _ hr _ hy hS H
  refine And.intro (fun h=>?_) (fun j hj=>?_)
  .rw [h] at hr;exact absurd hr (by simp)
  by_cases hji:j=i
  .subst hji;exact hy.wpOp hi hS ⟨fun _=>hS,H⟩
  .have:=ready_mono hj hji
   rw [H.1] at this;exact absurd this (by simp)
 | succ fuel ih =>
  intro listed a w hfree hr hun hy hS H
  refine And.intro (fun h=>?_) (fun j hj=>?_)
  .rw [h] at hr;exact absurd hr (by simp)
  by_cases hji:j=i
  .subst hji;exact hy.wpOp hi hS ⟨fun _=>hS,H⟩
  have hi0:=(mem_ready.1 hr).1;have hjc:=aQm hj cs i hi0 hw hun;have hjL:j ∉ Ls:=fun e=>hjc (hL j e);obtain ⟨hjun,oj,hoj,hall⟩:=mem_ready.1 hj
  have hnot:∀ e∈oj.after,Region.binds md e=true->e.on≠i:=fun e he hb heq=>by
   have h1:=hall e he hb;rw [heq] at h1
   rcases Nat.lt_or_ge i listed.size with h' | h'
   .simp [h'] at hi0 h1;rw [hi0] at h1;cases h1
   .simp [Array.getElem?_eq_none h'] at h1
  have h2:=wpOp_putIf hoj (hfree j oj hoj hji hjun hnot) (fun cs b=>hsel i oi cs b hi) (fun cs b=>hsel j oj cs b hoj) hQ hy (H.2 j (ready_mono hj hji));refine wpOp_mono (fun a' w' h3=>?_) h2
  obtain ⟨hy',hS',hrest⟩:=h3;have hs':=hS' hjL;refine ⟨fun _=>hs',ih _ a' w' ?_ (ready_mono hr (Ne.symm hji)) ?_ hy' hs' (by rw [Array.setIfInBounds_comm _ _ hji];exact hrest)⟩
  .intro k ok hk hki hunk hno
   refine hfree k ok hk hki ?_ hno
   by_cases hjk:j=k
   .subst hjk;exact hjun
   .rw [getD_set_ne true hjk] at hunk;exact hunk
  .unfold aE9 at hun ⊢
   rw [List.all_eq_true] at hun ⊢;intro c hc
   rw [getD_set_ne true (show j≠c from fun e=>hjc (by rw [e];exact hc))]
   exact hun c hc
theorem aDz.t {L:Nat} {oi:Oper} {v:Value} {fuel:Nat} {listed:Array Bool} {a:Act} {w:World} (i d:Nat) (hi:ops[i]?=some oi) (hd:oi.dst=some d)
  (hc:(Region.noSelect ops&&Region.free md ops listed i&&(Region.ready md ops listed).contains i&&((L :: Ls).all (aGy md ops L 60 i).contains&&aLa md ops i (aGy md ops L 60 i)&&aE9 listed (aGy md ops L 60 i)))=true)
  (hQ:∀ c a w,Q (.panic c) (a.put (some d) v) w->Q (.panic c) a w) (hS:S w) (hy:YieldsIf P ops S oi v a)
  (h:aDz P md ops Q S (L :: Ls) fuel (listed.setIfInBounds i true) (a.put (some d) v) w):aDz P md ops Q S (L :: Ls) (fuel+1) listed a w:=by
 rw [Bool.and_eq_true,Bool.and_eq_true,Bool.and_eq_true,Bool.and_eq_true,Bool.and_eq_true] at hc;exact aDz.first (aGy md ops L 60 i) hi (Region.noSelect_spec hc.1.1.1) (fun l hl=>by have:=List.all_eq_true.1 hc.2.1.1 l hl;simpa using this) hc.2.1.2 (by rw [hd];exact hQ) fuel listed a w (Region.free_spec hi hc.1.1.2) (by simpa using hc.1.2) hc.2.2 hy hS (by rw [hd];exact h)
theorem aDz.one {i:Nat} {o:Oper} {fuel:Nat} {listed:Array Bool} {a:Act} {w:World} (hr:Region.ready md ops listed=[i]) (ho:ops[i]?=some o)
  (h:∀ K':Act->World->Prop,Shut (∀ a w,(i ∉ Ls->S w)->aDz P md ops Q S Ls fuel (listed.setIfInBounds i true) a w->K' a w)->if Region.wanted o (yielded ops a.tmps)=true then Oper.wp P o a w K' Q else K' (a.put o.dst undef) w) :
  aDz P md ops Q S Ls (fuel+1) listed a w:=by
 refine And.intro (fun h=>by rw [h] at hr;exact absurd hr (by simp)) (fun j hj=>?_)
 rw [hr] at hj;obtain rfl:j=i:=by simpa using hj
 exact wpOp_step ho (fun K' hK=>h K' (fun a w hS hW=>hK a w ⟨hS,hW⟩))
theorem aDz.two {i j:Nat} {o o2:Oper} {fuel:Nat} {listed:Array Bool} {a:Act} {w:World} (hr:Region.ready md ops listed=[i,j]) (ho:ops[i]?=some o) (ho2:ops[j]?=some o2)
  (h:∀ K':Act->World->Prop,Shut (∀ a w,(i ∉ Ls->S w)->aDz P md ops Q S Ls fuel (listed.setIfInBounds i true) a w->K' a w)->if Region.wanted o (yielded ops a.tmps)=true then Oper.wp P o a w K' Q else K' (a.put o.dst undef) w)
  (h2:∀ K':Act->World->Prop,Shut (∀ a w,(j ∉ Ls->S w)->aDz P md ops Q S Ls fuel (listed.setIfInBounds j true) a w->K' a w)->if Region.wanted o2 (yielded ops a.tmps)=true then Oper.wp P o2 a w K' Q else K' (a.put o2.dst undef) w) :
  aDz P md ops Q S Ls (fuel+1) listed a w:=by
 refine And.intro (fun h=>by rw [h] at hr;exact absurd hr (by simp)) (fun k hk=>?_)
 rw [hr] at hk;have hk':k=i∨k=j:=by simpa using hk
 rcases hk' with rfl | rfl
 .exact wpOp_step ho (fun K' hK=>h K' (fun a w hS hW=>hK a w ⟨hS,hW⟩))
 .exact wpOp_step ho2 (fun K' hK=>h2 K' (fun a w hS hW=>hK a w ⟨hS,hW⟩))
theorem aDz.done {listed:Array Bool} {a:Act} {w:World} (hr:Region.ready md ops listed=[]) (h:Q .normal a w):∀ fuel,aDz P md ops Q S Ls fuel listed a w
 | 0=>⟨hr,h⟩
 | _+1=>⟨fun _=>h,by rw [hr];simp⟩
theorem aDz.start (S:World->Prop) (Ls:List Nat) {id:Nat} {a:Act} {w:World} (hm:P.follows .mixedOrders=true)
  (h:aDz P .any ops Q S Ls ops.size (Array.replicate ops.size false) a w.drew):(Code.region id ops true).wp P Q a w :=
 wp_region_any hm (aDz.any _ _ _ _ h)
end
open Go.ChangeShapes Go.WideShapes Go.ChangeAt Go.WideMaps Go.WideElems Go.RowKit Go.Deep
abbrev jc0 (P:Program) (f:FuncId) (fn:Func) (s:ChangeSpec) (c:OpenClaim):Bool:=c.wf (OpenSpec.ofChange s)
abbrev jc1 (P:Program) (f:FuncId) (fn:Func) (s:ChangeSpec) (c:OpenClaim):Bool:=laidOutB P
abbrev jc2 (P:Program) (f:FuncId) (fn:Func) (s:ChangeSpec) (c:OpenClaim):Bool:=mapsRowed P
abbrev jc3 (P:Program) (f:FuncId) (fn:Func) (s:ChangeSpec) (c:OpenClaim):Bool:=fn.params.all (P.readableRec ·)
abbrev jc4 (P:Program) (f:FuncId) (fn:Func) (s:ChangeSpec) (c:OpenClaim):Bool:=namedTie P c.named s.vars
abbrev jc5 (P:Program) (f:FuncId) (fn:Func) (s:ChangeSpec) (c:OpenClaim):Bool:=(c.stops==[])
abbrev jc6 (P:Program) (f:FuncId) (fn:Func) (s:ChangeSpec) (c:OpenClaim):Bool:=(P.stops==[])
abbrev jc7 (P:Program) (f:FuncId) (fn:Func) (s:ChangeSpec) (c:OpenClaim):Bool:=(c.knobs==[])
abbrev jc8 (P:Program) (f:FuncId) (fn:Func) (s:ChangeSpec) (c:OpenClaim):Bool:=(P.stopKnobs==[])
abbrev jc9 (P:Program) (f:FuncId) (fn:Func) (s:ChangeSpec) (c:OpenClaim):Bool:=(c.inPlace==P.inPlace f)
abbrev jc10 (P:Program) (f:FuncId) (fn:Func) (s:ChangeSpec) (c:OpenClaim):Bool:=(c.unfollowed==P.unfollowed f)
abbrev jc11 (P:Program) (f:FuncId) (fn:Func) (s:ChangeSpec) (c:OpenClaim):Bool:=(c.recurses==P.recurses f)
abbrev jc12 (P:Program) (f:FuncId) (fn:Func) (s:ChangeSpec) (c:OpenClaim):Bool:=(c.named==P.varsNamed f)
abbrev jc13 (P:Program) (f:FuncId) (fn:Func) (s:ChangeSpec) (c:OpenClaim):Bool:=(c.maps==(fn.params.toList++s.plain.varTypes P).any (P.mapsRec ·))
abbrev jc14 (P:Program) (f:FuncId) (fn:Func) (s:ChangeSpec) (c:OpenClaim):Bool:=(c.ifaces==(fn.params.toList++s.plain.varTypes P).any (P.ifacesRec ·))
abbrev jc15 (P:Program) (f:FuncId) (fn:Func) (s:ChangeSpec) (c:OpenClaim):Bool:=(c.mapsOut==P.mapsAmong fn.resultTypes.toList)
abbrev jc16 (P:Program) (f:FuncId) (fn:Func) (s:ChangeSpec) (c:OpenClaim):Bool:=(c.loops==(fn.params.toList++s.plain.varTypes P).any (P.loopsFrom ·))
abbrev jc17 (P:Program) (f:FuncId) (fn:Func) (s:ChangeSpec) (c:OpenClaim):Bool:=(c.wideKeys==(fn.params.toList++s.plain.varTypes P++fn.resultTypes.toList).any (P.wideKeysFrom ·))
abbrev jc18 (P:Program) (f:FuncId) (fn:Func) (s:ChangeSpec) (c:OpenClaim):Bool:=s.vars.all (P.varReadable ·)
abbrev jc19 (P:Program) (f:FuncId) (fn:Func) (s:ChangeSpec) (c:OpenClaim):Bool:=fn.resultTypes.all (fun t=>P.readableRec t&&decide (t<P.types.size))
abbrev jc20 (P:Program) (f:FuncId) (fn:Func) (s:ChangeSpec) (c:OpenClaim):Bool:=(c.ifacesOut==fn.resultTypes.toList.any (P.ifacesRec ·))
abbrev jc21 (P:Program) (f:FuncId) (fn:Func) (s:ChangeSpec) (c:OpenClaim):Bool:=(c.loopsOut==fn.resultTypes.toList.any (P.loopsFrom ·))
abbrev jc22 (P:Program) (f:FuncId) (fn:Func) (s:ChangeSpec) (c:OpenClaim):Bool:=(c.plainKeys==P.plainKeys)
abbrev jc23 (P:Program) (f:FuncId) (fn:Func) (s:ChangeSpec) (c:OpenClaim):Bool:=c.shortTexts.isNone
abbrev jc24 (P:Program) (f:FuncId) (fn:Func) (s:ChangeSpec) (c:OpenClaim):Bool:=P.stopsHeard
abbrev jc25 (P:Program) (f:FuncId) (fn:Func) (s:ChangeSpec) (c:OpenClaim):Bool:=P.mayEnter
abbrev jc26 (P:Program) (f:FuncId) (fn:Func) (s:ChangeSpec) (c:OpenClaim):Bool:=(c.lifted==P.liftsFinal)
abbrev jc27 (P:Program) (f:FuncId) (fn:Func) (s:ChangeSpec) (c:OpenClaim):Bool:=(P.make==some c.make)
abbrev jc28 (P:Program) (f:FuncId) (fn:Func) (s:ChangeSpec) (c:OpenClaim):Bool:=(c.kinds==(if c.domain.isEmpty then [] else fn.params.toList.map fun t=>match P.underlying t with | some (.int k)=>some k | _=>none))
abbrev jc29 (P:Program) (f:FuncId) (fn:Func) (s:ChangeSpec) (c:OpenClaim):Bool:=(c.pinned==c.pinnedBy)
abbrev jc30 (P:Program) (f:FuncId) (fn:Func) (s:ChangeSpec) (c:OpenClaim):Bool:=(c.veiled==(fn.params.toList++s.plain.varTypes P++fn.resultTypes.toList).any (P.veiledRec ·))
abbrev jc31 (P:Program) (f:FuncId) (fn:Func) (s:ChangeSpec) (c:OpenClaim):Bool:=c.veiledFits P fn.params.toList (fn.params.toList++s.plain.varTypes P++fn.resultTypes.toList)
theorem aIp {a b:Bool} (h:a=true) (k:b=true):(a&&b)=true:=by rw [h,k];rfl
theorem jp1:jc1 prog 6 Tryz.f6 Rows.runAllowsWeakerDaemonsSpec Rows.runAllowsWeakerDaemonsRow=true:=by kernel_rfl
theorem jp2:jc2 prog 6 Tryz.f6 Rows.runAllowsWeakerDaemonsSpec Rows.runAllowsWeakerDaemonsRow=true:=by kernel_rfl
theorem jp6:jc6 prog 6 Tryz.f6 Rows.runAllowsWeakerDaemonsSpec Rows.runAllowsWeakerDaemonsRow=true:=by kernel_rfl
theorem jp8:jc8 prog 6 Tryz.f6 Rows.runAllowsWeakerDaemonsSpec Rows.runAllowsWeakerDaemonsRow=true:=by kernel_rfl
theorem jp22:jc22 prog 6 Tryz.f6 Rows.runAllowsWeakerDaemonsSpec Rows.runAllowsWeakerDaemonsRow=true:=by kernel_rfl
theorem jp24:jc24 prog 6 Tryz.f6 Rows.runAllowsWeakerDaemonsSpec Rows.runAllowsWeakerDaemonsRow=true:=by kernel_rfl
theorem jp25:jc25 prog 6 Tryz.f6 Rows.runAllowsWeakerDaemonsSpec Rows.runAllowsWeakerDaemonsRow=true:=by kernel_rfl
theorem jp26:jc26 prog 6 Tryz.f6 Rows.runAllowsWeakerDaemonsSpec Rows.runAllowsWeakerDaemonsRow=true:=by kernel_rfl
theorem jp27:jc27 prog 6 Tryz.f6 Rows.runAllowsWeakerDaemonsSpec Rows.runAllowsWeakerDaemonsRow=true:=by kernel_rfl
theorem jmain:prog.mainIs=some (Rows.runAllowsWeakerDaemonsCard.stood.harness.1,Rows.runAllowsWeakerDaemonsCard.stood.harness.2.toList):=by kernel_rfl
theorem jlook:false=prog.looks []:=by kernel_rfl
open Go.ChangeShapes Go.WideShapes Go.ChangeAt Go.RowKit Go.Deep
theorem Tryz.cells_ints:prog.cellsOf 26=1:=by kernel_rfl
theorem Tryz.cells_terms:prog.cellsOf 90=1:=by kernel_rfl
theorem Tryz.cells_str:prog.cellsOf 9=1:=by kernel_rfl
theorem Tryz.cells_link:prog.cellsOf 102=2:=by kernel_rfl
theorem Tryz.cells_links:prog.cellsOf 96=1:=by kernel_rfl
theorem Tryz.cells_ports:prog.cellsOf 27=1:=by kernel_rfl
theorem Tryz.cells_var:prog.cellsOf 100=6:=by kernel_rfl
theorem Tryz.cells_vars:prog.cellsOf 22=1:=by kernel_rfl
theorem Tryz.cells_set:prog.cellsOf 95=2:=by kernel_rfl
theorem Tryz.cells_sets:prog.cellsOf 91=1:=by kernel_rfl
theorem Tryz.cells_rule:prog.cellsOf 93=3:=by kernel_rfl
theorem Tryz.cells_rules:prog.cellsOf 23=1:=by kernel_rfl
theorem Tryz.cells_prg:prog.cellsOf 25=3:=by kernel_rfl
theorem Tryz.cells_graph:prog.cellsOf 29=2:=by kernel_rfl
section
variable {H:Type} {enc:TypeId × Value->H} {w:World} {base:Nat} {spare:Nat->Bool} {held:Bool}
def aNd (enc:TypeId × Value->H) (w:World) (base:Nat) (spare:Nat->Bool) (held:Bool) {α:Type} (e:TypeId) (size:Nat) (E:World->Nat->Nat->α->Prop):Prop :=
 ∀ n cs y b o,(∀ j,j<size->w.cell? ⟨b,o+j,none⟩=cs[j]?)->cs.length=size->DataW.trod enc prog w base spare held n e cs=some y->∃ x,E w b o x/\True
theorem aF8 {α:Type} [Inhabited α] {t e:TypeId} {size:Nat} {E:World->Nat->Nat->α->Prop} (ht:prog.underlying t=some (.slice e)) (hC:prog.cellsOf e=size) (hsz:0<size)
  (hE:aNd enc w base spare held e size E):aNd enc w base spare held t 1 (aI5 size E):=by
 intro n cs y b o hat hl h
 obtain ⟨A,n',c,xs,hcs,hr,_,h1,h2⟩:=aJ0 (E:=E) (Good:=fun _=>True) ht hC hsz hE h;subst hcs;have hn:=hr.1;subst hn;exact ⟨xs,⟨A,c,by simpa using hat 0 (by omega),hr,h1,h2⟩,trivial⟩
theorem aKx:aNd enc w base spare held 3 1 aH3:=fun n cs y b o h1 h2 h3=>by
 obtain ⟨x,hx,_⟩:=aSo underlying3 n cs y b o h1 h2 h3;exact ⟨x,hx,trivial⟩
theorem aJo:aNd enc w base spare held 98 2 aI9:=fun n cs y b o h1 h2 h3=>by
 obtain ⟨x,hx,_⟩:=aQr n cs y b o h1 h2 h3;exact ⟨x,hx,trivial⟩
theorem aKh {α:Type} {f:TypeId} {k:Nat} {E:World->Nat->Nat->α->Prop} (hE:aNd enc w base spare held f 1 E) {m i n:Nat} {cs:List Value} {u:Value} {xs:List (DataW H × List MemPlace)} {b o:Nat}
  (h:DataW.trod enc prog w base spare held m f cs=xs[i]?) (hl:xs.length=n) (hi:i<n) (hcs:cs=[u]) (hat:w.cell? ⟨b,o+k,none⟩=some u):∃ x,E w b (o+k) x:=by
 obtain ⟨y,hy⟩:=aD4 h hl hi hcs
 obtain ⟨x,hx,_⟩:=hE m [u] y b (o+k) (fun j hj=>by
  obtain rfl:j=0:=by omega
  exact hat) rfl hy
 exact ⟨x,hx⟩
theorem aFy {f:TypeId} (hf:prog.underlying f=some .string) {m i n:Nat} {cs:List Value} {u:Value} {xs:List (DataW H × List MemPlace)}
  (h:DataW.trod enc prog w base spare held m f cs=xs[i]?) (hl:xs.length=n) (hi:i<n) (hcs:cs=[u]):∃ s,u = .string s:=by
 obtain ⟨y,hy⟩:=aD4 h hl hi hcs;obtain ⟨s,hc,_,_⟩:=DataW.trod_string hf hy;exact ⟨s,by simpa using hc⟩
theorem aBr {m i n:Nat} {cs:List Value} {u:Value} {xs:List (DataW H × List MemPlace)}
  (h:DataW.trod enc prog w base spare held m 3 cs=xs[i]?) (hl:xs.length=n) (hi:i<n) (hcs:cs=[u]):∃ x,u = .int .i64 x:=by
 obtain ⟨y,hy⟩:=aD4 h hl hi hcs;obtain ⟨x,hx,_,_⟩:=DataW.trod_int underlying3 hy;exact ⟨x,by simpa using hx⟩
theorem aQo:aNd enc w base spare held 102 2 aLo:=by
 intro n cs y b o hat hl h
 obtain ⟨xs,m,_,_,_,hxl,hf⟩:=DataW.trod_struct underlying102 h
 match cs,hl with
 | [u,v],_ =>
  obtain ⟨x0,rfl⟩:=aBr (u:=u) (hf 0 _ rfl) hxl (by decide) (by simp [Tryz.cells_int])
  obtain ⟨x1,rfl⟩:=aBr (u:=v) (hf 1 _ rfl) hxl (by decide) (by simp [Tryz.cells_int])
  exact ⟨⟨x0,x1⟩,⟨by simpa using hat 0 (by omega),by simpa using hat 1 (by omega)⟩,trivial⟩
theorem aSq:aNd enc w base spare held 100 6 aTu:=by
 intro n cs y b o hat hl h
 obtain ⟨xs,m,_,_,_,hxl,hf⟩:=DataW.trod_struct underlying100 h
 match cs,hl with
 | [u0,u1,u2,u3,u4,u5],_ =>
  obtain ⟨s,rfl⟩:=aFy underlying9 (u:=u0) (hf 0 _ rfl) hxl (by decide) (by simp [Tryz.cells_str])
  obtain ⟨x1,rfl⟩:=aBr (u:=u1) (hf 1 _ rfl) hxl (by decide) (by simp [Tryz.cells_int])
  obtain ⟨x2,rfl⟩:=aBr (u:=u2) (hf 2 _ rfl) hxl (by decide) (by simp [Tryz.cells_int])
  obtain ⟨x3,rfl⟩:=aBr (u:=u3) (hf 3 _ rfl) hxl (by decide) (by simp [Tryz.cells_int])
  obtain ⟨x4,rfl⟩:=aBr (u:=u4) (hf 4 _ rfl) hxl (by decide) (by simp [Tryz.cells_int])
  obtain ⟨x5,rfl⟩:=aBr (u:=u5) (hf 5 _ rfl) hxl (by decide) (by simp [Tryz.cells_int])
  exact ⟨⟨s,x1,x2,x3,x4,x5⟩,⟨by simpa using hat 0 (by omega),by simpa using hat 1 (by omega),by simpa using hat 2 (by omega),by simpa using hat 3 (by omega),by simpa using hat 4 (by omega),by simpa using hat 5 (by omega)⟩,trivial⟩
theorem aSp:aNd enc w base spare held 95 2 aRs:=by
 intro n cs y b o hat hl h
 obtain ⟨xs,m,_,_,_,hxl,hf⟩:=DataW.trod_struct underlying95 h
 match cs,hl with
 | [u0,u1],_ =>
  obtain ⟨x0,rfl⟩:=aBr (u:=u0) (hf 0 _ rfl) hxl (by decide) (by simp [Tryz.cells_int])
  obtain ⟨x1,h1⟩:=aKh (k:=1) (u:=u1) (b:=b) (o:=o) (aF8 underlying90 Tryz.cells_term (by decide) aJo) (hf 1 _ rfl) hxl (by decide) (by simp [Tryz.cells_terms]) (by simpa using hat 1 (by omega))
  exact ⟨⟨x0,x1⟩,⟨by simpa using hat 0 (by omega),h1⟩,trivial⟩
theorem aQq:aNd enc w base spare held 93 3 aPr:=by
 intro n cs y b o hat hl h
 obtain ⟨xs,m,_,_,_,hxl,hf⟩:=DataW.trod_struct underlying93 h
 match cs,hl with
 | [u0,u1,u2],_ =>
  obtain ⟨s,rfl⟩:=aFy underlying9 (u:=u0) (hf 0 _ rfl) hxl (by decide) (by simp [Tryz.cells_str])
  obtain ⟨x1,h1⟩:=aKh (k:=1) (u:=u1) (b:=b) (o:=o) (aF8 underlying90 Tryz.cells_term (by decide) aJo) (hf 1 _ rfl) hxl (by decide) (by simp [Tryz.cells_terms]) (by simpa using hat 1 (by omega))
  obtain ⟨x2,h2⟩:=aKh (k:=2) (u:=u2) (b:=b) (o:=o) (aF8 underlying91 Tryz.cells_set (by decide) aSp) (hf 2 _ rfl) hxl (by decide) (by simp [Tryz.cells_sets]) (by simpa using hat 2 (by omega))
  exact ⟨⟨s,x1,x2⟩,⟨by simpa using hat 0 (by omega),h1,h2⟩,trivial⟩
theorem aDu {α:Type} [Inhabited α] {t e:TypeId} {size:Nat} {E:World->Nat->Nat->α->Prop} (ht:prog.underlying t=some (.slice e)) (hC:prog.cellsOf e=size) (hsz:0<size)
  (hE:aNd enc w base spare held e size E) {fuel:Nat} {cs:List Value} {y:DataW H × List MemPlace} (h:DataW.trod enc prog w base spare held fuel t cs=some y) :
  ∃ (A:Option Addr) (c:Nat) (xs:List α),cs=[.slice A xs.length c]/\aAc size E w A xs.length xs/\xs.length<=c/\c<=maxLen:=by
 obtain ⟨A,n',c,xs,hcs,hr,_,h1,h2⟩:=aJ0 (E:=E) (Good:=fun _=>True) ht hC hsz hE h;have hn:=hr.1;subst hn;exact ⟨A,c,xs,hcs,hr,h1,h2⟩
theorem aUr {r:Reach} {b0:Nat} {v:Value} {d:DataW H} {p:List MemPlace} (h:DataW.Trod enc prog w base spare held 30 v d p) (hv:Value.okWide prog w r b0 30 v):∃ c:aA5,aAz w v c:=by
 obtain ⟨a,l,c',rfl⟩:=okWide_slice underlying30 hv;obtain ⟨fuel,h⟩:=h;obtain ⟨A,c,xs,hcs,hr,h1,h2⟩:=aDu underlying30 Tryz.cells_ints (by decide) (aF8 underlying26 Tryz.cells_int (by decide) aKx) h
 exact ⟨xs,A,c,by simpa [Value.cells] using hcs,hr,h1,h2⟩
theorem aSn {r:Reach} {b0:Nat} {v:Value} {d:DataW H} {p:List MemPlace} (h:DataW.Trod enc prog w base spare held 29 v d p) (hv:Value.okWide prog w r b0 29 v):∃ g:Graph,aAl w v g:=by
 obtain ⟨cs,rfl,hsz⟩:=okWide_struct underlying29 hv;obtain ⟨l⟩:=cs;rw [Tryz.cells_graph] at hsz
 match l,hsz with
 | [u,v],_ =>
  obtain ⟨fuel,hf⟩:=h;obtain ⟨xs,m,_,_,_,hxl,hf⟩:=DataW.trod_struct underlying29 hf;obtain ⟨y0,h0⟩:=aD4 (us:=[u]) (hf 0 _ rfl) hxl (by decide) (by simp [Tryz.cells_ints,Value.cells])
  obtain ⟨y1,h1⟩:=aD4 (us:=[v]) (hf 1 _ rfl) hxl (by decide) (by simp [Tryz.cells_ints,Tryz.cells_ports,Value.cells])
  obtain ⟨A,c,ids,e0,a1,a2,a3⟩:=aDu underlying26 Tryz.cells_int (by decide) aKx h0
  obtain ⟨A2,c2,ports,e1,b1,b2,b3⟩:=aDu underlying27 Tryz.cells_links (by decide) (aF8 underlying96 Tryz.cells_link (by decide) aQo) h1
  obtain rfl:u=_:=by simpa using e0
  obtain rfl:v=_:=by simpa using e1
  exact ⟨⟨ids,ports⟩,A,c,A2,c2,rfl,a1,a2,a3,b1,b2,b3⟩
theorem aWo {r:Reach} {b0:Nat} {v:Value} {d:DataW H} {p:List MemPlace} (h:DataW.Trod enc prog w base spare held 25 v d p) (hv:Value.okWide prog w r b0 25 v):∃ q:Prg,aEk w v q:=by
 obtain ⟨cs,rfl,hsz⟩:=okWide_struct underlying25 hv;obtain ⟨l⟩:=cs;rw [Tryz.cells_prg] at hsz
 match l,hsz with
 | [s,u,v],_ =>
  obtain ⟨fuel,hf⟩:=h;obtain ⟨xs,m,_,_,_,hxl,hf⟩:=DataW.trod_struct underlying25 hf;obtain ⟨nm,rfl⟩:=aFy underlying9 (u:=s) (hf 0 _ rfl) hxl (by decide) (by simp [Tryz.cells_str,Value.cells])
  obtain ⟨y0,h0⟩:=aD4 (us:=[u]) (hf 1 _ rfl) hxl (by decide) (by simp [Tryz.cells_str,Tryz.cells_vars,Value.cells])
  obtain ⟨y1,h1⟩:=aD4 (us:=[v]) (hf 2 _ rfl) hxl (by decide) (by simp [Tryz.cells_str,Tryz.cells_vars,Tryz.cells_rules,Value.cells])
  obtain ⟨A,c,vars,e0,a1,a2,a3⟩:=aDu underlying22 Tryz.cells_var (by decide) aSq h0
  obtain ⟨A2,c2,rules,e1,b1,b2,b3⟩:=aDu underlying23 Tryz.cells_rule (by decide) aQq h1
  obtain rfl:u=_:=by simpa using e0
  obtain rfl:v=_:=by simpa using e1
  exact ⟨⟨nm,vars,rules⟩,A,c,A2,c2,rfl,a1,a2,a3,b1,b2,b3⟩
end
end Go.Proofs.YtdcjnhoabbdanaaGreatDoor

