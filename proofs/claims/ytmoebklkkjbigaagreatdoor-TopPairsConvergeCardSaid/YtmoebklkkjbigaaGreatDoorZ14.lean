/- Merged. -/
import Derived.Test.YtmoebklkkjbigaaGreatDoorZ11
import Derived.RangeFuncNested
import Derived.RangeFuncBound
import Derived.RangeFuncCalls
import Derived.RangeFuncLeaves
import Derived.Shelf.Abstract
import Derived.Shelf.RegionOpen
import Derived.WalkKit
import Derived.OwnWalkIn
import Derived.TacticsInMore
import Derived.LoopNIn
import Derived.LoopIn
import Derived.RangeFuncBox
import Derived.Test.YtmoebklkkjbigaaGreatDoorZ12
set_option linter.unusedSimpArgs false
set_option linter.unnecessarySimpa false
set_option linter.unusedVariables false
set_option maxRecDepth 100000
set_option maxHeartbeats 2000000
open Go.Proofs.Tryz

namespace Go.Proofs.YtmoebklkkjbigaaGreatDoor
open Go.RowKit
theorem aUa {x:Nat} (h:x<4294967296):bits .and .u32 (x:Int) 255=((x % 256:Nat):Int):=by
 rw [show (255:Int)=((255:Nat):Int) from rfl,aCz h (by decide),Nat.and_two_pow_sub_one_eq_mod x 8]
theorem aPx (S:Nat) (w:World) (hS:S<4294967296) :
  Calls prog 116 #[.int .u32 (S:Int)] w fun e w'=>e = .returned (.int .i64 ((aAg S).length:Int))/\Bel w w':=by
 obtain ⟨b0,hb0⟩:∃ b:Nat,b=S % 256:=⟨_,rfl⟩;obtain ⟨b1,hb1⟩:∃ b:Nat,b=S / 256 % 256:=⟨_,rfl⟩;obtain ⟨b2,hb2⟩:∃ b:Nat,b=S / 65536 % 256:=⟨_,rfl⟩;obtain ⟨b3,hb3⟩:∃ b:Nat,b=S / 16777216:=⟨_,rfl⟩;have q0:bits .and .u32 (S:Int) 255=(b0:Int):=by rw [aUa hS,hb0]
 have q1:bits .and .u32 ((S:Int) / 256) 255=(b1:Int):=by
  rw [show (S:Int) / 256=((S / 256:Nat):Int) by omega,aUa (by omega),hb1]
 have q2:bits .and .u32 ((S:Int) / 65536) 255=(b2:Int):=by
  rw [show (S:Int) / 65536=((S / 65536:Nat):Int) by omega,aUa (by omega),hb2]
 have q3:(S:Int) / 16777216=(b3:Int):=by omega
 have l0:(b0:Int)<=255:=by omega
 have l1:(b1:Int)<=255:=by omega
 have l2:(b2:Int)<=255:=by omega
 have l3:(b3:Int)<=255:=by omega
 have i0:b0<=255:=by omega
 have i1:b1<=255:=by omega
 have i2:b2<=255:=by omega
 have i3:b3<=255:=by omega
 have HB:=aA0 (And.intro hb0 (And.intro hb1 (And.intro hb2 hb3)));clear hb0 hb1 hb2 hb3;go_enter func116,ntmps116;simp only [List.append_eq,List.cons_append,List.nil_append,Lib.fold_pop8tab]
 go_wp2
 go_region
 go_wp2;go_ret;refine ⟨aA9 ?_,(Bel.refl w).drew⟩
 obtain ⟨e0,e1,e2,e3⟩:=HB.out;rw [aVi (by omega),aVi (by omega),aVi (by omega),aVi (by omega),bA6 hS,e0,e1,e2,e3]
 have h0:=aUb (S % 256);have h1:=aUb (S / 256 % 256);have h2:=aUb (S / 65536 % 256);have h3:=aUb (S / 16777216);omega
attribute [local go_sem] Oper.semAt_some
theorem aF5 (S:Nat) (w:World) :
  Calls prog 85 #[.int .u32 (S:Int)] w fun e w'=>e = .returned (.func (.func 125) #[] #[.pointer (some ⟨w.heap.size,0,none⟩)])/\w'=w.alloc (.cells #[.int .u32 (S:Int)] 46):=by
 go_enter func85,ntmps85;go_wp2;go_ret;exact ⟨rfl,rfl⟩
theorem aDr.same {A B:World} (h:aDr A) (hs:A.heap.size<=B.heap.size) (hb:B.heap[0]?=A.heap[0]?):aDr B :=
 ⟨Nat.lt_of_lt_of_le h.1 hs,fun i hi=>(World.cell?_of_block hb).trans (h.2 i hi)⟩
def bPe (w:World) (B:Nat):Nat:=match w.cell? ⟨B,0,none⟩ with | some (.int _ x)=>x.toNat | _=>0
theorem aJx (n:Nat) (B S:Nat) (w:World) (hn:1<=n) (hS:S<4294967296) (hB:Boxed w B 46 (.int .u32 (S:Int))) (hT:aDr w) :
  bKp Fence.wide n prog 125 #[.pointer (some ⟨B,0,none⟩)] (fun v:Nat=>#[.int .i64 (v:Int)]) (fun k=>k=B) (fun k=>k=0) (aAg S) w:=by
 intro l J Jx W hW hJ hJx hY h0
 refine callsIn_of_wp func125 rfl trivial ?_ rfl
 simp only [ntmps125,List.size_toArray,List.length_cons,List.length_nil,Nat.reduceAdd,Nat.reduceSub,Array.replicate_succ,Array.replicate_zero,List.push_toArray,List.append_toArray,List.nil_append,List.cons_append]
 gi_wp2
 gi_loopw [] (fun wr=>∃ (pre:List Nat) (cur:Nat),Hid (Boxed wr B 46 (.int .u32 (cur:Int)))/\Hid (aDr wr)/\Hid (pre++aAg cur=aAg S)/\Hid (cur<4294967296)/\Hid (J pre wr)) (fun wr=>bPe wr B)
 case atStart=>exact ⟨[],S,by show Boxed _ _ _ _;exact (hW.block B hB.lt).trans hB,hT.keep hW,by show []++_=_;rfl,hS,h0⟩
 case round =>
  clear h0 hS hB hT;obtain ⟨pre,cur,HX,HT,HP,HC,HJ⟩:=hrel;have hc:=HX.out.cell;have hf:=HX.out.frozen;have hl:=HX.out.lt
  by_cases hz:cur=0
  .have hb:((cur:Int) != 0)=false:=by simp;exact hz
   have HZ:=aA0 hz;clear hz
   gi_wp2
   go_end0
   have h:=HP.out;rw [HZ.out,aLk,List.append_nil] at h;exact ⟨⟨_,rfl⟩,.inl (by rw [<- h];exact HJ.out)⟩
  .have hb:((cur:Int) != 0)=true:=by simp;exact hz
   obtain ⟨k,m,e1,hk,_,e2,e3⟩:=aDl HC.out hz
   have q:bits .and .u32 (cur:Int) (((cur:Int)-1) % 4294967296)=((2 ^ k*(2*m):Nat):Int):=by
    rw [show ((cur:Int)-1) % 4294967296=((cur-1:Nat):Int) by have:=HC.out;omega,aCz HC.out (by have:=HC.out;omega),e2]
   have hlt:2 ^ k*(2*m)<cur:=by
    have:2 ^ k*(2*m)+2 ^ k=cur:=by rw [e1,Nat.mul_add,Nat.mul_one]
    have:=Nat.two_pow_pos k;omega
   have HQ:Hid (pre++[k]++aAg (2 ^ k*(2*m))=aAg S):=by
    have:=HP.out;rw [e3] at this;show _=_
    rw [List.append_assoc];exact this
   have hpre:pre++[k] <+: aAg S:=⟨_,HQ.out⟩;obtain ⟨fn,tmps,assign,body,hy,hR⟩:=hY pre k wr hpre HJ.out;generalize 2 ^ k*(2*m)=nx at q hlt HQ;have HE1:=aA0 e1;have HLT:=aA0 hlt;have HZ:=aA0 hz;clear e1 e2 e3 hz hlt hpre hk
   gi_wp2_with (refine ⟨trivial,?_⟩;gi_at_call 126;refine (callsIn_wide.2 (bQ3 cur k m _ HT.out HC.out HE1.out)).mono ?_;rintro e w' ⟨rfl,rfl⟩)
   refine hR.mono ?_
   rintro e w' (⟨rfl,hJ',hs⟩ | ⟨rfl,hJx'⟩)
   .have hbx:Boxed w' B 46 (.int .u32 (cur:Int)):=(hs.2 B HX.out.lt (.inl rfl)).trans HX.out
    have HT':Hid (aDr w'):=HT.out.same hs.1 (hs.2 _ HT.out.1 (.inr rfl));have hc':=hbx.cell;have hf':=hbx.frozen;have hl':=hbx.lt;have HX':=aA0 hbx;have HJ':=aA0 hJ';clear hbx hJ' hs hc hf hl
    gi_wp2
    go_roundw
    case rel =>
     refine ⟨pre++[k],nx,HX'.out.set _,HT'.out.same (by simp) (Below.heap_setCell _ _ _ _ ?_),HQ.out,by have:=HC.out;have:=HLT.out;show _<_;omega,hJ _ _ _ HJ'.out (Agr.setCell _ _ _ rfl)⟩
     have h1:=HX'.out;have h2:=HT'.out.2 0 (by decide)
     intro e
     simp only at e
     subst e;rw [h1.cell] at h2;cases h2
    case measure =>
     have e1:bPe wr B=cur:=by unfold bPe;rw [HX.out.cell];simp
     have e2:∀ W:World,Boxed W B 46 (.int .u32 (nx:Int))->bPe W B=nx:=fun W h=>by unfold bPe;rw [h.cell];simp
     rw [e1,e2 _ (HX'.out.set _)];exact HLT.out
   .gi_wp2
    refine bodyPost_ret (results_none rfl _ _ _) rfl ?_
    exact ⟨⟨_,rfl⟩,.inr ⟨pre++[k],⟨_,HQ.out⟩,hJx'⟩⟩
end Go.Proofs.YtmoebklkkjbigaaGreatDoor

namespace Go.Proofs.YtmoebklkkjbigaaGreatDoor
theorem bF5 {g:Graph} {c d:aA2} {v:Nat} (hg:GOK g) (hv:v<g.ports.length) (hown:c.getD v []=d.getD v []) (hnear:∀ l∈g.ports.getD v [],c.getD l.to.toNat []=d.getD l.to.toNat []) {t:Term} {port:Int} {b:Bool} (hb:aFh t.op=true->b=true) (hp:aK2 g v b port):aLo g c v port t=aLo g d v port t:=by
 unfold aLo;rw [hown]
 by_cases h12:t.op=12
 .obtain ⟨k,rfl,hk⟩:=hp (hb (by unfold aFh;simp;omega))
  rw [aA7 hv] at hk hnear;obtain ⟨e,t,ht,htl,_⟩:=aO2 hg hv hk;rw [e,hnear _ (List.getElem_mem hk)]
 .rw [if_neg h12,if_neg h12]
theorem aSx {g:Graph} {c d:aA2} {v:Nat} (hg:GOK g) (hv:v<g.ports.length) (hown:c.getD v []=d.getD v []) (hnear:∀ l∈g.ports.getD v [],c.getD l.to.toNat []=d.getD l.to.toNat []) {x:Ex}:∀ {b:Bool} {port:Int},aBp b x->aK2 g v b port->aBb g c v port x=aBb g d v port x:=by
 induction x with
 | leaf t=>intro b port hb hp;exact bF5 hg hv hown hnear hb hp
 | un t a ih =>
  intro b port hb hp
  have hb':aBp (b||aAl t.op) a:=hb;simp only [aBb]
  split
  .rename_i hag
   rw [hag,Bool.or_true] at hb'
   congr 1
   refine List.map_congr_left fun k hk=>?_
   rw [List.mem_range] at hk;exact ih hb' (fun _=>⟨k,rfl,hk⟩)
  .rename_i hag
   rw [show aAl t.op=false by simpa using hag,Bool.or_false] at hb'
   rw [ih hb' hp]
 | bin t x y ihx ihy=>intro b port hb hp;simp only [aBb];rw [ihx hb.1 hp,ihy hb.2 hp]
 | tri t x y z ihx ihy ihz=>intro b port hb hp;simp only [aBb];rw [ihx hb.1 hp,ihy hb.2.1 hp,ihz hb.2.2 hp]
def aCj (g:Graph) (c:aA2) (v:Nat) (e:List Term):Bool:=aBb g c v (-1) (aBf e) != 0
def aAk (rs:List Rule) (g:Graph) (c:aA2) (v:Nat):Int:=match rs.findIdx? (fun r=>aCj g c v r.guard) with | some i=>(i:Int) | none => -1
theorem aXi {rs:List Rule} {g:Graph} {c:aA2} {v j:Nat} (h:j<rs.length) (ha:(rs.take j).all (fun r => !(aCj g c v r.guard))=true) (hj:aCj g c v rs[j].guard=true):aAk rs g c v=(j:Int):=by
 unfold aAk
 have:rs.findIdx? (fun r=>aCj g c v r.guard)=some j:=by
  rw [List.findIdx?_eq_some_iff_getElem];refine ⟨h,hj,fun k hk=>?_⟩
  have:=List.all_eq_true.1 ha rs[k] (by rw [List.mem_take_iff_getElem];exact ⟨k,by omega,rfl⟩)
  simpa using this
 rw [this]
theorem bA8 {rs:List Rule} {g:Graph} {c:aA2} {v:Nat} (ha:rs.all (fun r => !(aCj g c v r.guard))=true):aAk rs g c v = -1:=by
 unfold aAk
 have:rs.findIdx? (fun r=>aCj g c v r.guard)=none:=by
  rw [List.findIdx?_eq_none_iff];intro x hx
  have:=List.all_eq_true.1 ha x hx;simpa using this
 rw [this]
theorem aJp (rs:List Rule) (g:Graph) (c:aA2) (v:Nat) :
  (aAk rs g c v = -1/\∀ r∈rs,aCj g c v r.guard=false) ∨
  ∃ k:Nat,∃ hk:k<rs.length,aAk rs g c v=(k:Int)/\aCj g c v rs[k].guard=true/\∀ i (hi:i<k),aCj g c v rs[i].guard=false:=by
 unfold aAk;cases hf:rs.findIdx? (fun r=>aCj g c v r.guard) with
 | none =>
  left
  rw [List.findIdx?_eq_none_iff] at hf;exact ⟨rfl,fun r hr=>by simpa using hf r hr⟩
 | some k =>
  right
  rw [List.findIdx?_eq_some_iff_getElem] at hf;obtain ⟨hk,h1,h2⟩:=hf;exact ⟨k,hk,rfl,h1,fun i hi=>by simpa using h2 i hi⟩
theorem aP2 (rs:List Rule) (g:Graph) (c:aA2) (v:Nat) : -1<=aAk rs g c v/\aAk rs g c v<rs.length:=by
 rcases aJp rs g c v with ⟨h,_⟩ | ⟨k,hk,h,_⟩ <;> omega
def aJ0 (kind:Int) (b:Int × Int) (x:Int):Int:=if b.1<=x/\x<=b.2 then x else if kind=3 then -1 else if x<b.1 then b.1 else b.2
def bKa (p:Prg) (x:Int):Var:=p.vars.getD x.toNat default
def aJ4 (p:Prg) (g:Graph) (c:aA2) (v:Nat) (t:SetT):Int:=aJ0 (bKa p t.var).kind (aB8 (bKa p t.var) g v) (aBb g c v (-1) (aBf t.value))
def aD9 (p:Prg) (g:Graph) (c:aA2) (v:Nat) (l:List SetT):List Int:=l.foldl (fun s t=>s.set t.var.toNat (aJ4 p g c v t)) (c.getD v [])
def bDe (p:Prg) (k:Int):Rule:=p.rules.getD k.toNat default
def aFe (p:Prg) (g:Graph) (c:aA2) (v:Nat):List Int:=aD9 p g c v (bDe p (aAk p.rules g c v)).sets
def aAe (p:Prg) (g:Graph) (c:aA2):Nat:=aHn c.length fun v=>decide (0<=aAk p.rules g c v)
def aAd (p:Prg) (g:Graph) (c:aA2) (S:Nat):aA2:=(List.range c.length).map fun v=>if S.testBit v then aFe p g c v else c.getD v []
def bDp (p:Prg) (g:Graph) (c:aA2) (S:Nat):aA2 × Int :=
 if aC0 p g c≠0 then ([],aC0 p g c) else if S=0∨aB1 S (aAe p g c)=false then ([],11) else (aAd p g c S,0)
theorem aV0 (p:Prg) (g:Graph) (c:aA2) (v:Nat) (l:List SetT):(aD9 p g c v l).length=(c.getD v []).length:=by
 unfold aD9
 suffices ∀ s:List Int,(l.foldl (fun s t=>s.set t.var.toNat (aJ4 p g c v t)) s).length=s.length from this _
 induction l with
 | nil=>intro s;rfl
 | cons t l ih=>intro s;rw [List.foldl_cons,ih];simp
theorem bAr (p:Prg) (g:Graph) (c:aA2) (v:Nat) (l:List SetT) (j:Nat) (h:j<l.length):aD9 p g c v (l.take (j+1))=(aD9 p g c v (l.take j)).set l[j].var.toNat (aJ4 p g c v l[j]):=by
 unfold aD9;rw [List.take_succ_eq_append_getElem h,List.foldl_append];rfl
theorem aLl {p:Prg} {g:Graph} (hf:aD8 p g=0) {x:Var} (hx:x∈p.vars) (v:Nat):(aB8 x g v).1<=(aB8 x g v).2/\(x.kind=3->(aB8 x g v).1 = -1):=by
 obtain ⟨h1,h2,h3⟩:=aAm hf;have h4:=List.all_eq_true.1 h3 x hx;have h5:=aGk (List.all_eq_true.1 (aCm h1).1 x hx);unfold aNr at h4;have h4:=of_decide_eq_true h4;unfold aB8 at h4 ⊢
 rcases h5 with h | h | h
 .rw [if_pos h.1];simp;omega
 .rw [if_neg (by omega),if_pos h.1];simp;omega
 .have hk:=h.1
  rw [if_neg (by omega),if_neg (by omega)] at h4 ⊢
  dsimp only at h4 ⊢;omega
theorem aWs {kind:Int} {b:Int × Int} (h:b.1<=b.2) (hk:kind=3->b.1 = -1) (x:Int):b.1<=aJ0 kind b x/\aJ0 kind b x<=b.2:=by
 unfold aJ0;split
 .assumption
 split
 .have:=hk (by assumption);omega
 split <;> omega
theorem aVt {p:Prg} (hc:aBw p=0) {r:Rule} (hr:r∈p.rules) {s:SetT} (hs:s∈r.sets):(aBf s.value).ok/\(aBf s.value).terms=s.value/\(∀ t∈s.value,aM3 t p.vars.length=true)/\aBp false (aBf s.value)/\0<=s.var/\s.var<=(p.vars.length:Int)-1:=by
 obtain ⟨h1,_,h3,_,_,h6,h7⟩:=aCm hc;obtain ⟨hv,hval⟩:=(h6 r hr).sets s hs;obtain ⟨t1,t2,_,t4,_,_⟩:=aKg hval;refine ⟨t1,t2,t4,aT2 (kinds:=aDu p) (b:=false) ?_,hv.1,hv.2⟩
 have h8:=h7 r hr;unfold aFi at h8;simp only [Bool.and_eq_true,List.all_eq_true,beq_iff_eq] at h8
 rw [h8.2 s hs];obtain ⟨x,hx⟩:=Int.eq_ofNat_of_zero_le hv.1;rw [hx,Int.toNat_natCast,aA7 (by rw [aF4];omega)]
 have:=aR4 h1;have hk:=List.all_eq_true.1 this _ (List.getElem_mem (show x<(aDu p).length by rw [aF4];omega))
 unfold aHe at hk;simp at hk
 omega
theorem aMa {p:Prg} {g:Graph} {c:aA2} (hm:aC0 p g c=0) {v:Nat} (hv:v<c.length):aG6 (aJc p g v) (c.getD v [])=true:=by
 obtain ⟨_,h2⟩:=aBr hm;obtain ⟨h3,h4⟩:=aDi.1 h2;have:=h4 v hv (by omega)
 rw [aKb] at this
 rwa [aA7 hv]
theorem aP8 {p:Prg} {g:Graph} {c d:aA2} (hm:aC0 p g c=0) (hl:d.length=c.length) (h:∀ v,v<d.length->aG6 (aJc p g v) (d.getD v [])=true):aC0 p g d=0:=by
 obtain ⟨h1,h2⟩:=aBr hm
 have h3:aNl (aAa p g) d=true:=by
  rw [aDi];refine ⟨by rw [hl];exact (aDi.1 h2).1,fun v a b=>?_⟩
  rw [aKb];have:=h v a
  rwa [aA7 a] at this
 unfold aC0;rw [if_neg (by simpa using h1),h3];simp
theorem aBk {p:Prg} {g:Graph} {c:aA2} (hm:aC0 p g c=0):c.length=g.ports.length:=by
 obtain ⟨h1,h2⟩:=aBr hm;rw [(aDi.1 h2).1,aAs,(aAm h1).2.1.ids]
theorem bOn {p:Prg} {g:Graph} {c:aA2} (hm:aC0 p g c=0) {v:Nat} (hv:v<c.length):(c.getD v []).length=p.vars.length:=by
 rw [(aD3.1 (aMa hm hv)).1,aE6]
theorem bN0 {p:Prg} {x:Int} (h0:0<=x) (h1:x<=(p.vars.length:Int)-1):∃ i:Nat,∃ hi:i<p.vars.length,x=(i:Int)/\x.toNat=i/\bKa p x=p.vars[i]:=by
 obtain ⟨i,rfl⟩:=Int.eq_ofNat_of_zero_le h0;exact ⟨i,by omega,rfl,Int.toNat_natCast i,by unfold bKa;rw [Int.toNat_natCast];exact aA7 (by omega)⟩
theorem bAs {p:Prg} {g:Graph} {c:aA2} (hm:aC0 p g c=0) {v:Nat} (hv:v<c.length) {l:List SetT} (hl:∀ s∈l,0<=s.var/\s.var<=(p.vars.length:Int)-1):aG6 (aJc p g v) (aD9 p g c v l)=true:=by
 have hf:=(aBr hm).1;unfold aD9
 suffices ∀ s:List Int,aG6 (aJc p g v) s=true->aG6 (aJc p g v) (l.foldl (fun s t=>s.set t.var.toNat (aJ4 p g c v t)) s)=true from this _ (aMa hm hv)
 induction l with
 | nil=>intro s h;exact h
 | cons t l ih =>
  intro s h
  rw [List.foldl_cons];refine ih (fun s hs=>hl s (by simp [hs])) _ ?_
  obtain ⟨h0,h1⟩:=hl t (by simp)
  obtain ⟨i,hi,_,ei,ev⟩:=bN0 h0 h1;rw [ei];obtain ⟨a1,a2⟩:=aD3.1 h;rw [aD3];refine ⟨by simpa using a1,fun k b1 b2=>?_⟩
  by_cases hk:i=k
  .subst hk
   rw [List.getElem_set_self,bBk];unfold aJ4;rw [ev];obtain ⟨q1,q2⟩:=aLl hf (List.getElem_mem hi) v;exact aWs q1 q2 _
  .rw [List.getElem_set_ne hk]
   exact a2 k (by simpa using b1) b2
theorem bJl {p:Prg} (hc:aBw p=0) {k:Nat} (hk:k<p.rules.length):∀ s∈p.rules[k].sets,0<=s.var/\s.var<=(p.vars.length:Int)-1:=fun s hs=>by
 obtain ⟨_,_,_,_,h5,h6⟩:=aVt hc (List.getElem_mem hk) hs;exact ⟨h5,h6⟩
theorem aN3 {p:Prg} {k:Nat} (hk:k<p.rules.length):bDe p (k:Int)=p.rules[k]:=by
 unfold bDe;rw [Int.toNat_natCast];exact aA7 hk
theorem aT5 {p:Prg} {g:Graph} {c:aA2} (hm:aC0 p g c=0) {v:Nat} (hv:v<c.length) (hen:0<=aAk p.rules g c v):aG6 (aJc p g v) (aFe p g c v)=true:=by
 rcases aJp p.rules g c v with ⟨h,_⟩ | ⟨k,hk,h,_⟩
 .omega
 .unfold aFe
  rw [h,aN3 hk];exact bAs hm hv (bJl (aAm (aBr hm).1).1 hk)
theorem aBe (p:Prg) (g:Graph) (c:aA2) (S:Nat):(aAd p g c S).length=c.length:=by simp [aAd]
theorem aFa (p:Prg) (g:Graph) (c:aA2) (S:Nat) {v:Nat} (hv:v<c.length):(aAd p g c S).getD v []=if S.testBit v then aFe p g c v else c.getD v []:=by
 rw [aA7 (by rw [aBe];exact hv)]
 simp [aAd]
theorem aE0 {p:Prg} {g:Graph} {c:aA2} {v:Nat}:(aAe p g c).testBit v=(decide (v<c.length)&&decide (0<=aAk p.rules g c v)):=aFw _ _ _
theorem aN7 {p:Prg} {g:Graph} {c:aA2} (hm:aC0 p g c=0) {S:Nat} (hS:∀ v,v<c.length->S.testBit v=true->0<=aAk p.rules g c v):aC0 p g (aAd p g c S)=0:=by
 refine aP8 hm (aBe _ _ _ _) fun v hv=>?_
 rw [aBe] at hv;rw [aFa p g c S hv];cases hb:S.testBit v with
 | true=>exact aT5 hm hv (hS v hv hb)
 | false=>exact aMa hm hv
def aWa (g:Graph) (c d:aA2) (v:Nat):Prop:=c.getD v []=d.getD v []/\∀ l∈g.ports.getD v [],c.getD l.to.toNat []=d.getD l.to.toNat []
theorem aWa.symm {g:Graph} {c d:aA2} {v:Nat} (h:aWa g c d v):aWa g d c v:=⟨h.1.symm,fun l hl=>(h.2 l hl).symm⟩
theorem aZ9 {p:Prg} {g:Graph} {c d:aA2} {v:Nat} (hc:aBw p=0) (hg:GOK g) (hv:v<g.ports.length) (h:aWa g c d v) {r:Rule} (hr:r∈p.rules):aCj g c v r.guard=aCj g d v r.guard:=by
 unfold aCj;rw [aSx hg hv h.1 h.2 (aSz hc hr).2.2.2 aK3]
theorem aMe {α:Type} {p q:α->Bool}:∀ {l:List α},(∀ x∈l,p x=q x)->l.findIdx? p=l.findIdx? q
 | [],_=>rfl
 | x :: l,h=>by
  rw [List.findIdx?_cons,List.findIdx?_cons,h x (by simp),aMe (l:=l) fun y hy=>h y (by simp [hy])]
theorem aP1 {p:Prg} {g:Graph} {c d:aA2} {v:Nat} (hc:aBw p=0) (hg:GOK g) (hv:v<g.ports.length) (h:aWa g c d v):aAk p.rules g c v=aAk p.rules g d v:=by
 unfold aAk;rw [aMe fun r hr=>aZ9 hc hg hv h hr]
theorem aYd {p:Prg} {g:Graph} {c d:aA2} {v:Nat} (hg:GOK g) (hv:v<g.ports.length) (h:aWa g c d v) {l:List SetT} (hl:∀ s∈l,aBp false (aBf s.value)):aD9 p g c v l=aD9 p g d v l:=by
 unfold aD9;rw [h.1]
 suffices ∀ s:List Int,l.foldl (fun s t=>s.set t.var.toNat (aJ4 p g c v t)) s=l.foldl (fun s t=>s.set t.var.toNat (aJ4 p g d v t)) s from this _
 induction l with
 | nil=>intro s;rfl
 | cons t l ih =>
  intro s
  rw [List.foldl_cons,List.foldl_cons,ih (fun s hs=>hl s (by simp [hs]))]
  unfold aJ4;rw [aSx hg hv h.1 h.2 (hl t (by simp)) aK3]
theorem bAq {p:Prg} {g:Graph} {c d:aA2} {v:Nat} (hc:aBw p=0) (hg:GOK g) (hv:v<g.ports.length) (h:aWa g c d v) (hen:0<=aAk p.rules g c v):aFe p g c v=aFe p g d v:=by
 unfold aFe;rw [<- aP1 hc hg hv h]
 rcases aJp p.rules g c v with ⟨h',_⟩ | ⟨k,hk,h',_⟩
 .omega
 .rw [h',aN3 hk]
  exact aYd hg hv h fun s hs=>(aVt hc (List.getElem_mem hk) hs).2.2.2.1
def nbrF (g:Graph) (S:Nat):Nat:=aHn g.ports.length fun v=>(g.ports.getD v []).any fun l=>hasB S l.to
def bCp (g:Graph) (S:Nat):Bool:=aF2 g&&aB1 S (aHn g.ports.length fun _=>true)&&(List.range 32).all fun v => !((nbrF g S).testBit v&&S.testBit v)
structure Indep (g:Graph) (S:Nat):Prop where
 node:∀ v,S.testBit v=true->v<g.ports.length
 apart:∀ v (h:v<g.ports.length),S.testBit v=true->∀ l∈g.ports[v],S.testBit l.to.toNat=false
theorem bI2 {g:Graph} {S:Nat} (hS:S<4294967296) (h:bCp g S=true):Indep g S:=by
 unfold bCp at h;simp only [Bool.and_eq_true,List.all_eq_true,List.mem_range] at h
 obtain ⟨⟨h1,h2⟩,h3⟩:=h;have hg:=(aCa g).1 h1;have hle:=hg.le;rw [aAf] at h2
 have hn:∀ v,S.testBit v=true->v<g.ports.length:=fun v hv=>by
  have:=h2 v (aGv hS hv) hv;rw [aFw] at this;simp at this
  exact this
 refine ⟨hn,fun v hv hb l hl=>?_⟩
 have h4:=h3 v (by omega)
 rw [hb,Bool.and_true,Bool.not_eq_true'] at h4;unfold nbrF at h4;rw [aFw,decide_eq_true hv,Bool.true_and,aA7 hv,List.any_eq_false] at h4;have h5:=h4 l hl;obtain ⟨a1,a2,_⟩:=aB3.1 ((aAu.1 (hg.links v hv)).1 l hl);unfold hasB at h5;rw [decide_eq_true a1,decide_eq_true (show l.to<32 by omega)] at h5
 simpa using h5
theorem aTn {p:Prg} {g:Graph} {c:aA2} (hm:aC0 p g c=0) {S T:Nat} (hi:Indep g S) (hT:∀ v,T.testBit v=true->S.testBit v=true) {i:Nat} (hS:S.testBit i=true) (hn:T.testBit i=false):aWa g c (aAd p g c T) i:=by
 have hg:=(aAm (aBr hm).1).2.1;have hl:=aBk hm;have hin:=hi.node i hS;refine ⟨?_,fun l hlm=>?_⟩
 .rw [aFa _ _ _ _ (by omega),hn];rfl
 .rw [aA7 hin] at hlm
  obtain ⟨a1,a2,_⟩:=aB3.1 ((aAu.1 (hg.links i hin)).1 l hlm);have hb:=hi.apart i hin hS l hlm
  have hTf:T.testBit l.to.toNat=false:=by
   cases hq:T.testBit l.to.toNat with
   | false=>rfl
   | true=>rw [hT _ hq] at hb;cases hb
  rw [aFa _ _ _ _ (by omega),hTf];rfl
def aZi (ls:List Link):Nat:=ls.foldl (fun s l=>s|||2 ^ l.to.toNat) 0
def aO8 (g:Graph) (v:Nat):Nat:=aZi (g.ports.getD v [])
theorem bIm (ls:List Link) (l:Link):aZi (ls++[l])=aZi ls|||2 ^ l.to.toNat:=by unfold aZi;rw [List.foldl_append];rfl
theorem aV2 (ls:List Link) (u:Nat):∀ s:Nat,(ls.foldl (fun s l=>s|||2 ^ l.to.toNat) s).testBit u=(s.testBit u||ls.any fun l=>l.to.toNat==u):=by
 induction ls with
 | nil=>intro s;simp
 | cons l ls ih =>
  intro s
  rw [List.foldl_cons,ih,Nat.testBit_or,aEp,List.any_cons,Bool.or_assoc];rfl
theorem bCz (ls:List Link) (u:Nat):(aZi ls).testBit u=ls.any fun l=>l.to.toNat==u:=by
 unfold aZi;rw [aV2,Nat.zero_testBit,Bool.false_or]
theorem bIl {ls:List Link} (h:∀ l∈ls,l.to.toNat<32):aZi ls<4294967296:=by
 apply Nat.lt_pow_two_of_testBit (n:=32)
 intro i hi
 rw [bCz,List.any_eq_false];intro l hl
 have:=h l hl;simp;omega
theorem aO3 {g:Graph} (hg:GOK g) {v:Nat} (hv:v<g.ports.length) {l:Link} (hl:l∈g.ports[v]):0<=l.to/\l.to<(g.ports.length:Int):=by
 obtain ⟨a1,a2,_⟩:=aB3.1 ((aAu.1 (hg.links v hv)).1 l hl);exact ⟨a1,a2⟩
theorem bAx {g:Graph} (hg:GOK g) (v:Nat):aO8 g v<4294967296:=by
 unfold aO8
 by_cases hv:v<g.ports.length
 .rw [aA7 hv]
  refine bIl fun l hl=>?_
  have:=aO3 hg hv hl;have:=hg.le;omega
 .rw [List.getD_eq_getElem?_getD,List.getElem?_eq_none (by omega)];decide
theorem aHi {g:Graph} {v u:Nat} (hv:v<g.ports.length):(aO8 g v).testBit u=true↔∃ l∈g.ports[v],l.to.toNat=u:=by
 unfold aO8;rw [aA7 hv,bCz,List.any_eq_true];simp
theorem bM2 {g:Graph} (hg:GOK g) {v u:Nat} (hv:v<g.ports.length) (h:(aO8 g v).testBit u=true):u<g.ports.length/\(aO8 g u).testBit v=true:=by
 obtain ⟨l,hl,e⟩:=(aHi hv).1 h;obtain ⟨a1,a2⟩:=aO3 hg hv hl;have hu:u<g.ports.length:=by omega
 refine ⟨hu,(aHi hu).2 ?_⟩
 have hb:=hg.back v hv l hl;unfold aHb at hb;rw [e,aA7 hu,List.any_eq_true] at hb;obtain ⟨k,hk,hk2⟩:=hb;simp at hk2
 exact ⟨k,hk,by omega⟩
theorem aHa {A B:Nat}:A&&&B=0↔∀ u,A.testBit u=true->B.testBit u=false:=by
 constructor
 .intro h u hA
  have:=Nat.testBit_and A B u;rw [h,Nat.zero_testBit,hA,Bool.true_and] at this;exact this.symm
 .intro h
  refine Nat.eq_of_testBit_eq fun u=>?_
  rw [Nat.testBit_and,Nat.zero_testBit];cases hA:A.testBit u with
  | false=>rfl
  | true=>rw [h u hA];rfl
theorem bCx {g:Graph} (hg:GOK g) {S v:Nat}:(nbrF g S).testBit v=(decide (v<g.ports.length)&&(aO8 g v&&&S != 0)):=by
 unfold nbrF;rw [aFw]
 by_cases hv:v<g.ports.length
 .rw [decide_eq_true hv,Bool.true_and,Bool.true_and,Bool.eq_iff_iff,List.any_eq_true,bne_iff_ne,ne_eq,aHa,aA7 hv]
  constructor
  .rintro ⟨l,hl,hb⟩ hall
   obtain ⟨a1,a2⟩:=aO3 hg hv hl;have hle:=hg.le;unfold hasB at hb;simp at hb
   have:=hall l.to.toNat ((aHi hv).2 ⟨l,hl,rfl⟩);rw [hb.2] at this;cases this
  .intro hn
   apply Classical.byContradiction
   intro hx
   apply hn
   intro u hu
   obtain ⟨l,hl,rfl⟩:=(aHi hv).1 hu;obtain ⟨a1,a2⟩:=aO3 hg hv hl;have hle:=hg.le;cases hb:S.testBit l.to.toNat with
   | false=>rfl
   | true=>exact absurd ⟨l,hl,by unfold hasB;rw [decide_eq_true a1,decide_eq_true (show l.to<32 by omega),hb];rfl⟩ hx
 .rw [decide_eq_false hv];rfl
def aI2 (g:Graph) (S:Nat):Bool:=(aAg S).all fun v=>aO8 g v&&&S==0
theorem aTu {S n:Nat} (hn:n<=32) (hS:S<4294967296):aB1 S (aHn n fun _=>true)=true↔∀ v,S.testBit v=true->v<n:=by
 rw [aAf];constructor
 .intro h v hv
  have:=h v (aGv hS hv) hv;rw [aFw] at this;simpa using this
 .intro h v _ hv
  rw [aFw,decide_eq_true (h v hv)];rfl
theorem aFl {g:Graph} {S:Nat} (hS:S<4294967296):aI2 g S=true↔∀ v,S.testBit v=true->aO8 g v&&&S=0:=by
 unfold aI2;rw [List.all_eq_true];constructor
 .intro h v hv
  have:=h v (aCb.2 ⟨aGv hS hv,hv⟩);simpa using this
 .intro h v hv
  simpa using h v (aCb.1 hv).2
theorem bF2 {g:Graph} (hg:GOK g) {S:Nat} (hS:S<4294967296) (hw:aB1 S (aHn g.ports.length fun _=>true)=true):bCp g S=aI2 g S:=by
 have hle:=hg.le;have hn:=(aTu (by omega) hS).1 hw
 unfold bCp;rw [(aCa g).2 hg,hw,Bool.true_and,Bool.true_and,Bool.eq_iff_iff,aFl hS,List.all_eq_true];constructor
 .intro h v hv
  have:=h v (by rw [List.mem_range];exact aGv hS hv)
  rw [hv,Bool.and_true,bCx hg,decide_eq_true (hn v hv),Bool.true_and] at this;simpa using this
 .intro h v _
  cases hv:S.testBit v with
  | false=>simp
  | true=>rw [bCx hg,h v hv];simp
def aAj (g:Graph) (kind:Int) (E S:Nat):Bool :=
 if S=0 then false else if aB1 S E=false then false
 else if kind=1 then (S&&&(S-1))==0
 else if kind=2 then aI2 g S
 else if kind=4 then S==E
 else true
def aAq (g:Graph) (kind:Int) (E:Nat):List Nat × Int :=
 if E=0 then ([],0)
 else if kind=1 then ((aAg E).map (2 ^ ·),0)
 else if kind=4 then ([E],0)
 else if 10<(aAg E).length then ([],3)
 else ((aBd E (lsb E)).filter (aAj g kind E),0)
def aLn (g:Graph) (l:List Nat):Nat:=l.foldl (fun s v=>if aO8 g v&&&s=0 then s|||2 ^ v else s) 0
def aCp (g:Graph) (kind:Int) (E W:Nat):Nat :=
 let w:=if W&&&E=0 then lsb E else W&&&E
 if kind=1 then lsb w
 else if kind=2 then aLn g (aAg w)
 else if kind=4 then E
 else w
def aGx (kind:Int):Bool:=decide (1<=kind)&&decide (kind<=4)
open Go.RowKit
attribute [local go_sem] Oper.semAt_some
def aL3 (w:World) (b o:Nat) (x:Nat):Prop:=w.cell? ⟨b,o,none⟩=some (.int .u32 (x:Int))
theorem aL3.keeps:aNi aL3:=fun _ _ _ _ _ k hb h=>(k.cell hb).trans h
def aC5:=aAc 1 aL3
theorem aC5.keep {w w':World} {A:Option Addr} {n:Nat} {xs:List Nat} (h:aC5 w A n xs) (k:Bel w w'):aC5 w' A n xs:=aAc.keep aL3.keeps h k
theorem aC5.at_ {w:World} {A:Option Addr} {n:Nat} {xs:List Nat} (h:aC5 w A n xs) (k:Nat) (hk:k<xs.length) :
  ∃ b o,A=some ⟨b,o,none⟩/\b<w.heap.size/\w.cell? ⟨b,o+k,none⟩=some (.int .u32 (xs[k]:Int)):=by
 obtain ⟨b,o,e,hb,h⟩:=aAc.at_ h k hk;exact ⟨b,o,e,hb,by rw [Nat.mul_one] at h;exact h⟩
def bFc (g:Graph):List Nat:=(List.range g.ports.length).map (aO8 g)
def aOw (w:World) (A:Option Addr) (g:Graph):Prop:=aC5 w A g.ports.length (bFc g)
theorem aOw.keep {w w':World} {A:Option Addr} {g:Graph} (h:aOw w A g) (k:Bel w w'):aOw w' A g:=aC5.keep h k
theorem aOw.at_ {w:World} {A:Option Addr} {g:Graph} (h:aOw w A g) {v:Nat} (hv:v<g.ports.length) :
  ∃ b o,A=some ⟨b,o,none⟩/\b<w.heap.size/\w.cell? ⟨b,o+v,none⟩=some (.int .u32 (aO8 g v:Int)):=by
 obtain ⟨b,o,e,hb,h⟩:=aC5.at_ h v (by unfold bFc;simpa using hv)
 refine ⟨b,o,e,hb,?_⟩
 rw [h];simp [bFc]
theorem bI3 (A:Option Addr) (c:Nat) (g:Graph) (S:Nat) (w:World) (hN:aOw w A g) (hT:aDr w) (hS:S<4294967296) (hw:∀ v,S.testBit v=true->v<g.ports.length) (hg:GOK g) :
  Calls prog 155 #[.slice A g.ports.length c,.int .u32 (S:Int)] w fun e w'=>e = .returned (.bool (aI2 g S))/\Bel w w':=by
 have HN:=aA0 (fun w' (k:Bel w w')=>hN.keep k);have HT:=aA0 (fun w' (k:Bel w w')=>hT.keep k);refine aFj func155 rfl ?_
 simp only [ntmps155,List.size_toArray,List.length_cons,List.length_nil,Nat.reduceAdd,Nat.reduceSub,Array.replicate_succ,Array.replicate_zero,List.push_toArray,List.append_toArray,List.nil_append,List.cons_append]
 go_wp2_with (go_at_call 85;refine (aF5 _ _).mono ?_;rintro e w' ⟨rfl,rfl⟩)
 obtain ⟨W0,hW0⟩:∃ W0,(((w.alloc (.cells #[.slice A g.ports.length c] 98)).alloc (.cells #[.int .u32 (S:Int)] 46)).alloc (.cells #[.bool false] 4)).alloc (.cells #[.int .u32 (S:Int)] 46)=W0:=⟨_,rfl⟩;have b1:Boxed W0 w.heap.size 98 (.slice A g.ports.length c):=by rw [<- hW0];exact (((Boxed.new w _ _).alloc _).alloc _).alloc _
 have b2:Boxed W0 (w.heap.size+1) 46 (.int .u32 (S:Int)):=by
  rw [<- hW0];have:=Boxed.new (w.alloc (.cells #[.slice A g.ports.length c] 98)) 46 (.int .u32 (S:Int));rw [World.size_alloc] at this;exact (this.alloc _).alloc _
 have b3:Boxed W0 (w.heap.size+1+1) 4 (.bool false):=by
  rw [<- hW0];have:=Boxed.new ((w.alloc (.cells #[.slice A g.ports.length c] 98)).alloc (.cells #[.int .u32 (S:Int)] 46)) 4 (.bool false);rw [World.size_alloc,World.size_alloc] at this;exact this.alloc _
 have b4:Boxed W0 (w.heap.size+1+1+1) 46 (.int .u32 (S:Int)):=by
  rw [<- hW0];have:=Boxed.new (((w.alloc (.cells #[.slice A g.ports.length c] 98)).alloc (.cells #[.int .u32 (S:Int)] 46)).alloc (.cells #[.bool false] 4)) 46 (.int .u32 (S:Int));rw [World.size_alloc,World.size_alloc,World.size_alloc] at this;exact this
 have hb0:Bel w W0:=by rw [<- hW0];exact ((((Bel.refl w).alloc _).alloc _).alloc _).alloc _
 have hz0:W0.heap.size=w.heap.size+1+1+1+1:=by rw [<- hW0];simp
 rw [hW0];clear hW0;refine (wpIn_wide (n:=5)).1 ?_
 refine aFq (n:=5) rfl (by decide) (gf:=125) (lb:=#[.pointer (some ⟨w.heap.size+1+1+1,0,none⟩)]) (by simp [go_sem]) trivial (enters_of func125 (by kernel_rfl) rfl)
  (aJx 4 _ S W0 (by decide) hS b4 (HT.out _ hb0)) (by rintro k rfl;omega) (by rintro k rfl;exact (HT.out _ hb0).1) (fun _=>rfl) (fun k=>k=w.heap.size+1+1+1∨k=W0.heap.size∨k=W0.heap.size+1) (fun k=>Iff.rfl)
  (fun pre W=>Boxed W w.heap.size 98 (.slice A g.ports.length c)/\Boxed W (w.heap.size+1) 46 (.int .u32 (S:Int))/\Boxed W (w.heap.size+1+1) 4 (.bool false)/\(∀ v∈pre,aO8 g v&&&S=0)/\Bel w W)
  (fun c pre W=>c = .ret/\Boxed W (w.heap.size+1+1) 4 (.bool false)/\aI2 g S=false/\Bel w W)
  (fun s A B ⟨h1,h2,h3,h4,h5⟩ hg=>⟨hg.boxed h1 (by omega),hg.boxed h2 (by omega),hg.boxed h3 (by omega),h4,hg.belE h5 (by omega)⟩)
  (fun c s A B ⟨h1,h2,h3,h4⟩ hg=>⟨h1,hg.boxed h2 (by omega),h3,hg.belE h4 (by omega)⟩)
  ⟨b1,b2,b3,by simp,hb0⟩
  (fun x a' W=>a'={ tmps:=#[.slice A g.ports.length c,.int .u32 (S:Int),.pointer (some ⟨w.heap.size,0,none⟩),.pointer (some ⟨w.heap.size+1,0,none⟩),.pointer (some ⟨w.heap.size+1+1,0,none⟩),.int .i64 (x:Int),.int .u32 (S:Int),.func (.func 125) #[] #[.pointer (some ⟨w.heap.size+1+1+1,0,none⟩)],.int .i64 (x:Int),undef,undef,undef,undef,undef,undef,undef],defers:=[] })
  (fun _ _ _ _ h _=>h) ?assign ?body ?done ?stop
 case assign =>
  intro pre x W K hp hI hl hK
  gi_wp2
  exact hK _ _ (aBg.refl _ _) hI rfl
 case body =>
  rintro pre x a' W hp ⟨h1,h2,h3,h4,h5⟩ rfl hl ⟨r,hr⟩;obtain ⟨c1,f1,l1⟩:=aAt h1;obtain ⟨c2,f2,l2⟩:=aAt h2;obtain ⟨c3,f3,l3⟩:=aAt h3;have hx:x∈aAg S:=hp.subset (by simp)
  have hxn:=hw x (aCb.1 hx).2;obtain ⟨b,o,e,hb,hc⟩:=(HN.out _ h5).at_ hxn;subst e;have q:=aCz (bAx hg x) hS;have hdx:decide (x<g.ports.length)=true:=by simpa using hxn
  generalize hnv:aO8 g x=N at *;refine wpIn_block (wpIn_seq ?_)
  refine aA6.startIn (fun w'=>w'.cell? ⟨w.heap.size,0,none⟩=some (.slice (some ⟨b,o,none⟩) g.ports.length c)/\w'.cell? ⟨w.heap.size+1,0,none⟩=some (.int .u32 (S:Int))/\w'.cell? ⟨b,o+x,none⟩=some (.int .u32 (N:Int))/\w.heap.size<w'.heap.size/\w.heap.size+1<w'.heap.size/\b<w'.heap.size) 6 (by kernel_rfl) (by kernel_rfl) (by rintro ⟨_,_,h⟩;exact h) ?_
  have hHeld:W.drew.cell? ⟨w.heap.size,0,none⟩=some (.slice (some ⟨b,o,none⟩) g.ports.length c)/\W.drew.cell? ⟨w.heap.size+1,0,none⟩=some (.int .u32 (S:Int))/\W.drew.cell? ⟨b,o+x,none⟩=some (.int .u32 (N:Int))/\w.heap.size<W.drew.heap.size/\w.heap.size+1<W.drew.heap.size/\b<W.drew.heap.size:=⟨c1,c2,hc,l1,l2,hb⟩
  by_cases hz:N&&&S=0
  .rw [hz] at q
   (refine aA6.t (v:=?_) 0 9 rfl rfl (by kernel_rfl) (fun _ _ _ h=>h) hHeld (Or.inl ⟨by rfl,?_⟩) ?_;rotate_left 1;focus (intro w' hSw;(try dsimp only at hSw);go_simp;(try with_reducible rfl);done))
   (refine aA6.t (v:=?_) 1 10 rfl rfl (by kernel_rfl) (fun _ _ _ h=>h) hHeld (Or.inl ⟨by rfl,?_⟩) ?_;rotate_left 1;focus (intro w' hSw;(try dsimp only at hSw);go_simp;(try with_reducible rfl);done))
   (refine aA6.t (v:=?_) 2 11 rfl rfl (by kernel_rfl) (fun _ _ _ h=>h) hHeld (Or.inl ⟨by rfl,?_⟩) ?_;rotate_left 1;focus (intro w' hSw;(try dsimp only at hSw);go_simp;(try with_reducible rfl);done))
   (refine aA6.t (v:=?_) 3 12 rfl rfl (by kernel_rfl) (fun _ _ _ h=>h) hHeld (Or.inl ⟨by rfl,?_⟩) ?_;rotate_left 1;focus (intro w' hSw;(try dsimp only at hSw);go_simp;(try with_reducible rfl);done))
   (refine aA6.t (v:=?_) 4 13 rfl rfl (by kernel_rfl) (fun _ _ _ h=>h) hHeld (Or.inl ⟨by rfl,?_⟩) ?_;rotate_left 1;focus (intro w' hSw;(try dsimp only at hSw);go_simp;(try with_reducible rfl);done))
   (refine aA6.t (v:=?_) 5 14 rfl rfl (by kernel_rfl) (fun _ _ _ h=>h) hHeld (Or.inl ⟨by rfl,?_⟩) ?_;rotate_left 1;focus (intro w' hSw;(try dsimp only at hSw);go_simp;(try with_reducible rfl);done))
   refine aA6.one (i:=6) (by kernel_rfl) rfl (fun K hK=>?_)
   go_simp
   refine hK.out _ _ (fun h=>absurd rfl h) ?_
   refine aA6.done (by kernel_rfl) ?_ _
   (try simp only [Act.put,List.setIfInBounds_toArray,List.set_cons_zero,List.set_cons_succ])
   change Code.wpIn _ _ _ _ _ _ _
   gi_wp2
   exact ⟨aBg.of_bel ((Bel.refl W).drew),h1,h2,h3,fun v hv=>by
    rcases List.mem_append.1 hv with hv | hv
    .exact h4 v hv
    .obtain rfl:v=x:=by simpa using hv
     rw [hnv];exact hz,h5.drew⟩
  .have hq:(((N&&&S:Nat):Int) != 0)=true:=by simpa using hz
   have hpf:aI2 g S=false:=by
    rw [Bool.eq_false_iff];intro hp
    have:=(aFl hS).1 hp x (aCb.1 hx).2;rw [hnv] at this;exact hz this
   generalize N&&&S=M at *
   (refine aA6.t (v:=?_) 0 9 rfl rfl (by kernel_rfl) (fun _ _ _ h=>h) hHeld (Or.inl ⟨by rfl,?_⟩) ?_;rotate_left 1;focus (intro w' hSw;(try dsimp only at hSw);go_simp;(try with_reducible rfl);done))
   (refine aA6.t (v:=?_) 1 10 rfl rfl (by kernel_rfl) (fun _ _ _ h=>h) hHeld (Or.inl ⟨by rfl,?_⟩) ?_;rotate_left 1;focus (intro w' hSw;(try dsimp only at hSw);go_simp;(try with_reducible rfl);done))
   (refine aA6.t (v:=?_) 2 11 rfl rfl (by kernel_rfl) (fun _ _ _ h=>h) hHeld (Or.inl ⟨by rfl,?_⟩) ?_;rotate_left 1;focus (intro w' hSw;(try dsimp only at hSw);go_simp;(try with_reducible rfl);done))
   (refine aA6.t (v:=?_) 3 12 rfl rfl (by kernel_rfl) (fun _ _ _ h=>h) hHeld (Or.inl ⟨by rfl,?_⟩) ?_;rotate_left 1;focus (intro w' hSw;(try dsimp only at hSw);go_simp;(try with_reducible rfl);done))
   (refine aA6.t (v:=?_) 4 13 rfl rfl (by kernel_rfl) (fun _ _ _ h=>h) hHeld (Or.inl ⟨by rfl,?_⟩) ?_;rotate_left 1;focus (intro w' hSw;(try dsimp only at hSw);go_simp;(try with_reducible rfl);done))
   (refine aA6.t (v:=?_) 5 14 rfl rfl (by kernel_rfl) (fun _ _ _ h=>h) hHeld (Or.inl ⟨by rfl,?_⟩) ?_;rotate_left 1;focus (intro w' hSw;(try dsimp only at hSw);go_simp;(try with_reducible rfl);done))
   refine aA6.one (i:=6) (by kernel_rfl) rfl (fun K hK=>?_)
   go_simp
   refine hK.out _ _ (fun h=>absurd rfl h) ?_
   refine aA6.done (by kernel_rfl) ?_ _
   (try simp only [Act.put,List.setIfInBounds_toArray,List.set_cons_zero,List.set_cons_succ])
   change Code.wpIn _ _ _ _ _ _ _
   gi_wp2
   refine ⟨(aBg.of_bel ((Bel.refl W).drew)).trans (aBg.setCell _ _ _ ?_),rfl,Boxed.set _ (show Boxed W.drew _ _ _ from h3),hpf,h5.drew.setCell (by simp;omega) _⟩
   have:=hT.1;rintro ((h | h | h) | h) <;> simp at h <;> omega
 case done =>
  rintro W ⟨h1,h2,h3,h4,h5⟩ hK;obtain ⟨c3,f3,l3⟩:=aAt h3;have hpt:aI2 g S=true:=(aFl hS).2 fun v hv=>h4 v (aCb.2 ⟨aGv hS hv,hv⟩);go_wp2;have h3':=h3.set (.bool true);refine aDd (B:=w.heap.size) (aE9.push (aE9.nil _ _) (by omega) ((Below.heap_setCell _ _ _ _ (by simp;omega)).trans hK) (by simp)) ?_
  intro W' hA hs
  have hr:=hA.cellD h3'.cell;exact ⟨.bool true,by simp [results,Tryz.results155,go_sem,hr],aA1 hpt.symm,hA.bel (h5.setCell (by simp;omega) _)⟩
 case stop =>
  rintro c' pre W hp ⟨rfl,h3,hpf,h5⟩ hK;refine wpIn_wide.2 ?_
  go_wp2;refine aDd (B:=w.heap.size) (aE9.push (aE9.nil _ _) (by omega) hK (by simp)) ?_
  intro W' hA hs
  have hr:=hA.cellD h3.cell;exact ⟨.bool false,by simp [results,Tryz.results155,go_sem,hr],aA1 hpf.symm,hA.bel h5⟩
end Go.Proofs.YtmoebklkkjbigaaGreatDoor

namespace Go.Proofs.YtmoebklkkjbigaaGreatDoor
theorem aR0:∀ {bs:List (Int × Int)} {cs:List Int},inL bs cs↔cs.length=bs.length/\∀ i,(h1:i<cs.length)->(h2:i<bs.length)->bs[i].1<=cs[i]/\cs[i]<=bs[i].2
 | [],[]=>by simp [inL]
 | [],_ :: _=>by simp [inL]
 | _ :: _,[]=>by simp [inL]
 | b :: bs,c :: cs=>by
  have ih:=aR0 (bs:=bs) (cs:=cs);constructor
  .rintro ⟨h1,h2,h3⟩
   obtain ⟨h4,h5⟩:=ih.1 h3;refine ⟨by simp [h4],fun i a1 a2=>?_⟩
   cases i with
   | zero=>exact ⟨h1,h2⟩
   | succ i=>exact h5 i (by simpa using a1) (by simpa using a2)
  .rintro ⟨h1,h2⟩
   have h0:=h2 0 (by simp) (by simp)
   refine ⟨h0.1,h0.2,ih.2 ⟨by simpa using h1,fun i a1 a2=>?_⟩⟩
   exact h2 (i+1) (by simpa using a1) (by simpa using a2)
theorem aR1:∀ {T:List (List (Int × Int))} {C:aA2},inN T C↔C.length=T.length/\∀ v,(h1:v<C.length)->(h2:v<T.length)->inL T[v] C[v]
 | [],[]=>by simp [inN]
 | [],_ :: _=>by simp [inN]
 | _ :: _,[]=>by simp [inN]
 | t :: T,c :: C=>by
  have ih:=aR1 (T:=T) (C:=C);constructor
  .rintro ⟨h1,h3⟩
   obtain ⟨h4,h5⟩:=ih.1 h3;refine ⟨by simp [h4],fun i a1 a2=>?_⟩
   cases i with
   | zero=>exact h1
   | succ i=>exact h5 i (by simpa using a1) (by simpa using a2)
  .rintro ⟨h1,h2⟩
   have h0:=h2 0 (by simp) (by simp)
   refine ⟨h0,ih.2 ⟨by simpa using h1,fun i a1 a2=>?_⟩⟩
   exact h2 (i+1) (by simpa using a1) (by simpa using a2)
theorem bHi {T:List (List (Int × Int))} {C:aA2}:aNl T C=true↔inN T C:=by
 rw [aDi,aR1];constructor
 .rintro ⟨h1,h2⟩;exact ⟨h1,fun v a b=>aR0.2 (aD3.1 (h2 v a b))⟩
 .rintro ⟨h1,h2⟩;exact ⟨h1,fun v a b=>aD3.2 (aR0.1 (h2 v a b))⟩
theorem aR7 {p:Prg} {g:Graph} {c:aA2} (hm:aC0 p g c=0):inN (aAa p g) c:=bHi.1 (aBr hm).2
theorem bPi {p:Prg} {g:Graph} {c:aA2} (hf:aD8 p g=0) (h:inN (aAa p g) c):aC0 p g c=0:=by
 unfold aC0;rw [if_neg (by simpa using hf),bHi.2 h];simp
theorem aQ3 {p:Prg} {g:Graph} (hf:aD8 p g=0):okN (aAa p g):=by
 intro t ht
 unfold aAa at ht;obtain ⟨v,_,rfl⟩:=List.mem_map.1 ht;intro b hb
 unfold aJc at hb;obtain ⟨x,hx,rfl⟩:=List.mem_map.1 hb;exact (aLl hf hx v).1
def aE7 (p:Prg) (g:Graph):Int:=aAv (aAa p g)
def aAw (p:Prg) (g:Graph) (k:Nat):aA2:=aQn (aAa p g) (k:Int)
def bAz (p:Prg) (g:Graph) (c:aA2):Int:=aPi (aAa p g) c
def aDx (p:Prg) (g:Graph):Int × Int:=if aD8 p g≠0 then (0,aD8 p g) else if 32768<aE7 p g then (0,3) else (aE7 p g,0)
theorem bDl {p:Prg} {g:Graph} (hf:aD8 p g=0):0<aE7 p g:=aH4 (aQ3 hf)
theorem aDz {p:Prg} {g:Graph} (hf:aD8 p g=0) {k:Nat} (hk:(k:Int)<aE7 p g):aC0 p g (aAw p g k)=0:=bPi hf (aUe (aQ3 hf) (by omega) hk)
theorem aI7 {p:Prg} {g:Graph} {c:aA2} (hm:aC0 p g c=0):0<=bAz p g c/\bAz p g c<aE7 p g:=aOd (aR7 hm)
theorem aX0 {p:Prg} {g:Graph} {c:aA2} (hm:aC0 p g c=0):aAw p g (bAz p g c).toNat=c:=by
 have h:=aI7 hm;unfold aAw;rw [Int.toNat_of_nonneg h.1];exact aM9 (aR7 hm)
theorem bIq {p:Prg} {g:Graph} (hf:aD8 p g=0) {k:Nat} (hk:(k:Int)<aE7 p g):bAz p g (aAw p g k)=(k:Int):=aRc (aQ3 hf) (by omega) hk
structure Spc where
 enabled:List Nat
 arcs:List (List (Nat × Int))
def aFg (p:Prg) (g:Graph) (kind:Int) (c:aA2):List (Nat × Int):=(aAq g kind (aAe p g c)).1.map fun T=>(T,bAz p g (aAd p g c T))
def bDn (p:Prg) (g:Graph) (kind:Int):Spc:=⟨(List.range (aE7 p g).toNat).map fun k=>aAe p g (aAw p g k),(List.range (aE7 p g).toNat).map fun k=>aFg p g kind (aAw p g k)⟩
def aJl (p:Prg) (g:Graph) (kind:Int):Spc × Int :=
 if (aDx p g).2≠0/\(aDx p g).2≠3 then (⟨[],[]⟩,(aDx p g).2)
 else if aGx kind=false then (⟨[],[]⟩,12)
 else if (aDx p g).2≠0 then (⟨[],[]⟩,(aDx p g).2)
 else (bDn p g kind,0)
theorem aYs {S:Nat} (hS:S<4294967296):∀ n s,S-s<n->s&&&S=s->s≠0->(aBd S s).length<=S-s+1:=by
 intro n
 induction n with
 | zero=>intro s h;omega
 | succ n ih =>
  intro s hn hs h0
  rw [aFu hS hs h0,List.length_cons]
  by_cases hl:s=S
  .subst hl;rw [aGr 32 s hS,aDq];simp
  .obtain ⟨h1,h2,_⟩:=aGs 32 S s hS hs hl
   have hle:=aCo h2;have:=ih _ (by omega) h2 (by omega)
   omega
theorem aJm {S n:Nat} (hn:n<=32) (hS:S<2 ^ n):(aAg S).length<=n:=by
 rw [aQr hn hS];exact Nat.le_trans (List.length_filter_le _ _) (by simp)
theorem aCf {g:Graph} {kind:Int} {E:Nat} (hE:E<32):(aAq g kind E).2=0/\(aAq g kind E).1.length<=31/\(aAg E).length<=5:=by
 have h5:=aJm (S:=E) (n:=5) (by decide) hE
 unfold aAq
 by_cases h0:E=0
 .rw [if_pos h0];exact ⟨rfl,by simp,h5⟩
 rw [if_neg h0];split
 .exact ⟨rfl,by simp;omega,h5⟩
 split
 .exact ⟨rfl,by simp,h5⟩
 rw [if_neg (by omega)]
 refine ⟨rfl,?_,h5⟩
 have hlt:E<4294967296:=by omega
 have h1:=aYs hlt (E-lsb E+1) (lsb E) (by omega) aIq (aT4 hlt h0)
 have h2:=List.length_filter_le (aAj g kind E) (aBd E (lsb E));have h3:=aCo (aIq (S:=E));have h4:=aT4 hlt h0;show (List.filter _ _).length<=31
 omega
theorem aBh {g:Graph} {kind:Int} {E S:Nat} (h:aAj g kind E S=true):S≠0/\aB1 S E=true:=by
 unfold aAj at h;split at h
 .cases h
 split at h
 .cases h
 .rename_i h1 h2
  exact ⟨h1,by simpa using h2⟩
theorem aFn {S E:Nat} (hS:S<4294967296) (hE:E<4294967296):S&&&E=S↔aB1 S E=true:=by
 rw [aAf];constructor
 .intro h v _ hv
  have:=Nat.testBit_and S E v;rw [h,hv,Bool.true_and] at this;exact this.symm
 .intro h
  refine aV1 (Nat.and_lt_two_pow (n:=32) S hE) hS fun v hv=>?_
  rw [Nat.testBit_and];cases hb:S.testBit v with
  | false=>rfl
  | true=>rw [h v hv hb];rfl
theorem bHl {v:Nat} (hv:v<32):aAg (2 ^ v)=[v]:=by
 have h:=aIl (k:=v) (m:=0) (by have:=aLj hv;simpa using this)
 simpa [aLk] using h
theorem aCu {g:Graph} {kind:Int} {E S:Nat} (hE:E<4294967296) (hk:aGx kind=true) (ho:(aAq g kind E).2=0) (hS:S<4294967296) :
  S∈(aAq g kind E).1↔aAj g kind E S=true:=by
 unfold aGx at hk;simp at hk
 unfold aAq at *
 by_cases h0:E=0
 .rw [if_pos h0]
  subst h0;constructor
  .intro h;cases h
  .intro h
   obtain ⟨h1,h2⟩:=aBh h
   exfalso
   apply h1
   refine aV1 hS (by decide) fun v hv=>?_
   rw [Nat.zero_testBit];cases hb:S.testBit v with
   | false=>rfl
   | true=>have:=aAf.1 h2 v hv hb;rw [Nat.zero_testBit] at this;cases this
 rw [if_neg h0] at ho ⊢
 by_cases h1:kind=1
 .rw [if_pos h1]
  subst h1;constructor
  .intro h
   obtain ⟨v,hv,rfl⟩:=List.mem_map.1 h;obtain ⟨hv1,hv2⟩:=aCb.1 hv;unfold aAj;rw [if_neg (Nat.ne_of_gt (Nat.two_pow_pos v))]
   have hw:aB1 (2 ^ v) E=true:=by
    rw [aAf];intro u _ hu;rw [aEp] at hu;obtain rfl:v=u:=by simpa using hu
    exact hv2
   rw [hw,if_neg (by decide),if_pos rfl,aOp hS (Nat.ne_of_gt (Nat.two_pow_pos v)),bHl hv1];rfl
  .intro h
   obtain ⟨h2,h3⟩:=aBh h;unfold aAj at h;rw [if_neg h2,h3,if_neg (by decide),if_pos rfl,aOp hS h2,decide_eq_true_eq] at h
   obtain ⟨k,m,e,hk,_,e2,e3⟩:=aDl hS h2;rw [e3,List.length_cons] at h
   have hz:2 ^ k*(2*m)=0:=by
    refine (aFs ?_).1 (by omega)
    have:2 ^ k*(2*m)<=2 ^ k*(2*m+1):=Nat.mul_le_mul_left _ (by omega)
    omega
   have hS2:S=2 ^ k:=by rw [e,Nat.mul_add,hz];simp
   refine List.mem_map.2 ⟨k,aCb.2 ⟨hk,?_⟩,hS2.symm⟩
   refine aAf.1 h3 k hk ?_
   rw [hS2,aEp];simp
 rw [if_neg h1] at ho ⊢
 by_cases h4:kind=4
 .rw [if_pos h4]
  subst h4;rw [List.mem_singleton];constructor
  .rintro rfl
   unfold aAj;have hw:aB1 S S=true:=by rw [aAf];intro _ _ h;exact h
   rw [if_neg h0,hw];simp
  .intro h
   obtain ⟨h2,h3⟩:=aBh h;unfold aAj at h;rw [if_neg h2,h3] at h;simpa using h
 rw [if_neg h4] at ho ⊢
 by_cases h10:10<(aAg E).length
 .rw [if_pos h10] at ho;cases ho
 rw [if_neg h10,List.mem_filter,aIr hE (E-lsb E+1) _ (by omega) aIq (aT4 hE h0)]
 constructor
 .rintro ⟨_,h⟩;exact h
 .intro h
  obtain ⟨h2,h3⟩:=aBh h;have hp:=(aFn hS hE).2 h3;refine ⟨⟨?_,hp⟩,h⟩
  obtain ⟨k,m,e,hk,e1,_,e3⟩:=aDl hE h0;rw [e1];obtain ⟨k2,m2,e4,hk2,_,_,e5⟩:=aDl hS h2;have hb:E.testBit k2=true:=aAf.1 h3 k2 hk2 (by rw [e4,aQi];simp)
  have hkk:k<=k2:=by
   rw [e,aQi] at hb
   rcases Nat.lt_or_ge k2 k with hlt | hge
   .rw [aM7 k m k2 (by omega)] at hb;simp at hb;omega
   .exact hge
  have h6:2 ^ k<=2 ^ k2:=Nat.pow_le_pow_right (by decide) hkk
  have h7:2 ^ k2*1<=2 ^ k2*(2*m2+1):=Nat.mul_le_mul_left _ (by omega)
  omega
theorem aPc {E n:Nat} (hn:n<=32) (hE:E<2 ^ n):aB1 E (aHn n fun _=>true)=true:=by
 have h32:E<4294967296:=Nat.lt_of_lt_of_le hE (Nat.pow_le_pow_right (n:=2) (by decide) hn)
 rw [aTu hn h32];intro v hv
 rcases Nat.lt_or_ge v n with h | h
 .exact h
 .have e:2 ^ n<=2 ^ v:=Nat.pow_le_pow_right (by decide) h
  rw [Nat.testBit_lt_two_pow (Nat.lt_of_lt_of_le hE e)] at hv;cases hv
theorem aPd {A B C:Nat} (h:aB1 A B=true) (k:aB1 B C=true):aB1 A C=true:=by
 rw [aAf] at *;exact fun v hv hA=>k v hv (h v hv hA)
def aDf (g:Graph) (v s:Nat):List Value:=(List.range g.ports.length).map fun u=>Value.int .u32 ((if u<v then aO8 g u else if u=v then s else 0:Nat):Int)
theorem aYj (g:Graph):aDf g 0 0=List.replicate g.ports.length (.int .u32 0):=by
 apply List.ext_getElem
 .simp [aDf]
 .intro i h1 h2
  simp [aDf]
theorem bAy (g:Graph) {v:Nat} (_:v<g.ports.length) (s s':Nat):(aDf g v s).set v (.int .u32 (s':Int))=aDf g v s':=by
 apply List.ext_getElem
 .simp [aDf]
 .intro i h1 h2
  rw [List.getElem_set]
  by_cases h:v=i
  .subst h;rw [if_pos rfl];simp [aDf]
  .rw [if_neg h]
   simp only [aDf,List.getElem_map,List.getElem_range]
   by_cases hi:i<v
   .rw [if_pos hi,if_pos hi]
   .rw [if_neg hi,if_neg hi,if_neg (fun e=>h e.symm),if_neg (fun e=>h e.symm)]
theorem aYi (g:Graph) (v:Nat):aDf g v (aO8 g v)=aDf g (v+1) 0:=by
 unfold aDf;refine List.map_congr_left fun u _=>?_
 by_cases h:u<v
 .rw [if_pos h,if_pos (by omega)]
 .rw [if_neg h]
  by_cases h2:u=v
  .subst h2;rw [if_pos rfl,if_pos (by omega)]
  .rw [if_neg h2,if_neg (by omega)]
   split <;> rfl
theorem bFb (g:Graph) {v:Nat} (hv:v<g.ports.length) (s:Nat):(aDf g v s)[v]?=some (.int .u32 (s:Int)):=by
 unfold aDf;rw [List.getElem?_map,List.getElem?_range hv];simp
theorem aYh (g:Graph) (s:Nat) {u:Nat} (hu:u<g.ports.length):(aDf g g.ports.length s)[u]?=some (.int .u32 (aO8 g u:Int)):=by
 unfold aDf;rw [List.getElem?_map,List.getElem?_range hu];simp [hu]
theorem bIn {ls:List Link} {i:Nat} (hi:i<ls.length):aZi (ls.take (i+1))=aZi (ls.take i)|||2 ^ ls[i].to.toNat:=by
 rw [List.take_succ_eq_append_getElem hi,bIm]
end Go.Proofs.YtmoebklkkjbigaaGreatDoor

