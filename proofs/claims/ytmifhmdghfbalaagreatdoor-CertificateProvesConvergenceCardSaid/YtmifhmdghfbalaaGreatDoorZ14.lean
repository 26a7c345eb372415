/- Merged. -/
import Derived.Test.YtmifhmdghfbalaaGreatDoorZ13
set_option linter.unusedSimpArgs false
set_option linter.unnecessarySimpa false
set_option linter.unusedVariables false
set_option maxRecDepth 100000
set_option maxHeartbeats 4000000
open Go.Proofs.Tryz

namespace Go.Proofs.YtmifhmdghfbalaaGreatDoor
open Go.RowKit
def Fr (g:Nat) (a b:World):Prop:=a.heap.size<=b.heap.size/\∀ k,k<a.heap.size->k≠g->b.heap[k]?=a.heap[k]?
theorem Fr.refl (g:Nat) (a:World):Fr g a a:=⟨Nat.le_refl _,fun _ _ _=>rfl⟩
theorem Fr.trans {g:Nat} {a b c:World} (h:Fr g a b) (k:Fr g b c):Fr g a c:=⟨Nat.le_trans h.1 k.1,fun i hi hg=>(k.2 i (Nat.lt_of_lt_of_le hi h.1) hg).trans (h.2 i hi hg)⟩
theorem Fr.of_bel {g:Nat} {a b:World} (h:Bel a b):Fr g a b:=⟨h.size,fun k hk _=>h.block k hk⟩
theorem Fr.alloc {g:Nat} {a b:World} (h:Fr g a b) (o:Obj):Fr g a (b.alloc o):=h.trans (Fr.of_bel ((Bel.refl b).alloc o))
theorem Fr.drew {g:Nat} {a b:World} (h:Fr g a b):Fr g a b.drew:=h
theorem Fr.drewN {g:Nat} {a b:World} (h:Fr g a b) (n:Nat):Fr g a (b.drewN n):=h
theorem Fr.set {g:Nat} {a b:World} (h:Fr g a b) (o:Nat) (v:Value):Fr g a (b.setCell ⟨g,o,none⟩ v) :=
 h.trans ⟨by simp,fun k hk hg=>Below.heap_setCell _ _ _ _ hg⟩
theorem Fr.setNew {g:Nat} {a b:World} (h:Fr g a b) {p:Addr} (hp:a.heap.size<=p.block) (v:Value):Fr g a (b.setCell p v) :=
 ⟨by have:=h.1;simpa using this,fun k hk hg=>(Below.heap_setCell _ _ _ _ (by omega)).trans (h.2 k hk hg)⟩
theorem Fr.cell {g:Nat} {a b:World} (h:Fr g a b) {k o:Nat} (hk:k<a.heap.size) (hg:k≠g):b.cell? ⟨k,o,none⟩=a.cell? ⟨k,o,none⟩:=by
 unfold World.cell?;rw [h.2 k hk hg]
theorem Fr.newer {g g':Nat} {a b c:World} (h:Fr g a b) (hg:a.heap.size<=g') (k:Fr g' b c):Fr g a c :=
 ⟨Nat.le_trans h.1 k.1,fun i hi hne=>(k.2 i (Nat.lt_of_lt_of_le hi h.1) (by omega)).trans (h.2 i hi hne)⟩
def aQ9 (w:World) (b o:Nat) (x:Int × Int):Prop:=w.cell? ⟨b,o,none⟩=some (.int .i64 x.1)/\w.cell? ⟨b,o+1,none⟩=some (.int .i64 x.2)
theorem aQ9.keeps:aO4 aQ9:=fun _ _ _ _ _ k hb h=>⟨(k.cell hb).trans h.1,(k.cell hb).trans h.2⟩
def aKg:=aAh 2 aQ9
def aEn:=aAh 1 (aIu 2 aQ9)
theorem aEn.keep {w w':World} {A:Option Addr} {n:Nat} {xs:List (List (Int × Int))} (h:aEn w A n xs) (k:Bel w w'):aEn w' A n xs:=aAh.keep (aIu.keeps aQ9.keeps) h k
theorem aKg.keep {w w':World} {A:Option Addr} {n:Nat} {xs:List (Int × Int)} (h:aKg w A n xs) (k:Bel w w'):aKg w' A n xs:=aAh.keep aQ9.keeps h k
theorem aEn.at_ {w:World} {A:Option Addr} {n:Nat} {xs:List (List (Int × Int))} (h:aEn w A n xs) (k:Nat) (hk:k<xs.length) :
  ∃ b o R c,A=some ⟨b,o,none⟩/\b<w.heap.size/\w.cell? ⟨b,o+k,none⟩=some (.slice R xs[k].length c)/\aKg w R xs[k].length xs[k]/\xs[k].length<=c/\c<=maxLen:=RowsAt.at_ h k hk
theorem aKg.at_ {w:World} {A:Option Addr} {n:Nat} {xs:List (Int × Int)} (h:aKg w A n xs) (k:Nat) (hk:k<xs.length) :
  ∃ b o,A=some ⟨b,o,none⟩/\b<w.heap.size/\w.cell? ⟨b,o+k*2,none⟩=some (.int .i64 xs[k].1)/\w.cell? ⟨b,o+k*2+1,none⟩=some (.int .i64 xs[k].2):=aAh.at_ h k hk
def aI2 (w:World) (v:Value) (t:List (List (Int × Int))):Prop:=∃ A c,v = .slice A t.length c/\aEn w A t.length t/\t.length<=c/\c<=maxLen
theorem aI2.keep {w w':World} {v:Value} {t:List (List (Int × Int))} (h:aI2 w v t) (k:Bel w w'):aI2 w' v t:=by
 obtain ⟨A,c,e,h1,h2⟩:=h;exact ⟨A,c,e,h1.keep k,h2⟩
def aEp (p:Prg) (g:Graph) (v:Nat):List (Int × Int):=p.vars.map fun x=>aAg x g v
def aAa (p:Prg) (g:Graph):List (List (Int × Int)):=(List.range g.ids.length).map (aEp p g)
def bI4 (t:List (List (Int × Int))) (w:World) (e:Ending) (w':World):Prop:=∃ v,e = .returned v/\aI2 w' v t/\Bel w w'
def aN3 (N:Nat) (w:World) (v:Value) (t:List (List (Int × Int))):Prop:=∀ W,aFd N w W->aI2 W v t
theorem aN3.keep {N:Nat} {w w':World} {v:Value} {t:List (List (Int × Int))} (h:aN3 N w v t) (k:Bel w w'):aN3 N w' v t:=fun W hW=>h W (hW.back k)
theorem aN3.low {N M:Nat} {w:World} {v:Value} {t:List (List (Int × Int))} (h:aN3 N w v t) (hM:M<=N):aN3 M w v t:=fun W hW=>h W (hW.up hM)
def bEs (t:List (List (Int × Int))) (w:World) (e:Ending) (w':World):Prop:=∃ v,e = .returned v/\aN3 w.heap.size w' v t/\Bel w w'
def aPv (w:World) (N m gb v:Nat) (hs:List Value) (t:List (List (Int × Int))):Prop :=
 ∀ u,u<v->∃ gu,hs[u]?=some (.slice (some ⟨gu,0,none⟩) m m)/\gu≠gb/\gu<w.heap.size/\N<=gu/\∀ x i,(t.getD u [])[i]?=some x->aQ9 w gu (i*2) x
theorem aPv.kept {w w':World} {N m gb v:Nat} {hs:List Value} {t:List (List (Int × Int))} (h:aPv w N m gb v hs t) (hf:Fr gb w w'):aPv w' N m gb v hs t:=fun u hu=>by
 obtain ⟨gu,h1,h2,h3,h5,h4⟩:=h u hu;exact ⟨gu,h1,h2,Nat.lt_of_lt_of_le h3 hf.1,h5,fun x i hx=>⟨(hf.cell h3 h2).trans (h4 x i hx).1,(hf.cell h3 h2).trans (h4 x i hx).2⟩⟩
theorem aIb {w w':World} {base:Nat} {e:TypeId} {size gb n c g:Nat} {xs:List Value} (h:w.ownsRow base e size (.slice (some ⟨gb,0,none⟩) n c) n xs) (hf:Fr g w w') (hne:gb≠g):w'.ownsRow base e size (.slice (some ⟨gb,0,none⟩) n c) n xs:=by
 refine ⟨h.1,?_⟩
 rcases h.2 with ⟨hv,_⟩ | ⟨g',cap,cur,hv,hb,hg,hr⟩
 .cases hv
 .right
  refine ⟨g',cap,cur,hv,hb,?_,hr⟩
  injection hv with hA;injection hA with hA;injection hA with hA;subst hA
  rw [hf.2 gb (lt_of_block hg) hne];exact hg
theorem aC8 {w:World} {base:Nat} {e:TypeId} {g n c:Nat} {xs:List Value} (h:w.ownsRow base e 1 (.slice (some ⟨g,0,none⟩) n c) n xs) (j:Nat) (hj:j<xs.length):w.cell? ⟨g,j,none⟩=some xs[j]:=by
 obtain ⟨g',e1,_,_,h1,_⟩:=aBv h (List.getElem?_eq_getElem hj);obtain rfl:g=g':=by simpa using e1
 exact h1
def aOc (l:List Term) (k:Nat):List Term:=l.take k++List.replicate (l.length-k) ⟨0,0⟩
theorem bDb (l:List Term):aOc l 0=List.replicate l.length ⟨0,0⟩:=by simp [aOc]
theorem bD9 (l:List Term) (k:Nat) (h:l.length<=k):aOc l k=l:=by simp [aOc,List.take_of_length_le h,show l.length-k=0 by omega]
theorem aX9 (l:List Term) (k:Nat):(aOc l k).length=l.length:=by simp [aOc];omega
theorem bFp (l:List Term) (k:Nat) (h:k<l.length):(aOc l k)[k]?=some ⟨0,0⟩:=by
 unfold aOc;rw [List.getElem?_append_right (by simp;omega)]
 rw [List.length_take,Nat.min_eq_left (Nat.le_of_lt h),Nat.sub_self,List.getElem?_replicate,if_pos (by omega)]
theorem bDa (l:List Term) (k:Nat) (h:k<l.length):(aOc l k).set k l[k]=aOc l (k+1):=by
 unfold aOc;rw [List.set_append_right _ _ (by simp;omega),List.length_take,Nat.min_eq_left (Nat.le_of_lt h),Nat.sub_self,show l.length-k=(l.length-(k+1))+1 by omega,List.replicate_succ,List.set_cons_zero]
 conv=>rhs;rw [List.take_succ_eq_append_getElem h,List.append_assoc]
 rfl
theorem aTb (es:List Term) (k:Nat) (t:Term) (h:k<es.length):((es.flatMap aD5).set (k*2) (.int .i64 t.op)).set (k*2+1) (.int .i64 t.arg)=(es.set k t).flatMap aD5:=by
 induction es generalizing k with
 | nil=>simp at h
 | cons x es ih =>
  cases k with
  | zero=>simp [aD5]
  | succ k =>
   have:=ih k (by simpa using h)
   rw [show (k+1)*2+1=(k*2+1)+1+1 by omega,show (k+1)*2=k*2+1+1 by omega]
   simpa [aD5] using this
theorem bB6 (m:Nat):(List.replicate m (⟨0,0⟩:Term)).flatMap aD5=List.replicate (m*2) (.int .i64 0):=by
 induction m with
 | zero=>rfl
 | succ m ih=>rw [List.replicate_succ,List.flatMap_cons,ih,show (m+1)*2=m*2+1+1 by omega,List.replicate_succ,List.replicate_succ];rfl
theorem bGa (m:Nat):(madeCells (Value.agg #[.int .i64 0,.int .i64 0]).cells (m*2)).toList=(List.replicate m (⟨0,0⟩:Term)).flatMap aD5:=by
 rw [bB6,List.eq_replicate_iff];refine ⟨by simp [madeCells],fun b hb=>?_⟩
 simp [madeCells,Value.cells] at hb
 obtain ⟨i,hi,rfl⟩:=hb
 rcases Nat.mod_two_eq_zero_or_one i with h | h <;> simp [h]
theorem bJ0:(prog.info? 235).map (fun i=>(i.zero,i.size,i.bytes))=some (some (.slice none 0 0),1,24):=by kernel_rfl
theorem bGr:(prog.info? 237).map (fun i=>(i.zero,i.size,i.bytes))=some (some (.agg #[.int .i64 0,.int .i64 0]),2,16):=by kernel_rfl
theorem aUh (v:Value) (p:Prg) (v2:Value) (g:Graph) (w:World) (h:aE0 w v p) (h2:aAl w v2 g) (hc:aBm p=0) (hg:GOK g) (hG:aB3 g=true) :
  Calls prog 151 #[v,v2] w (bEs (aAa p g) w):=by
 have HGV:=aA1 (fun w' (k:Bel w w')=>h2.keep k);obtain ⟨A,k,A2,k2,rfl,hV,_,_,_,_,_⟩:=h;obtain ⟨A3,k3,A4,k4,rfl,_,_,_,_,_,_⟩:=h2;have HV:=aA1 (fun w' (k:Bel w w')=>aKh.keep hV k);clear hV;obtain ⟨cn,c1,c6,_⟩:=aB6 hc;have HCN:=aA1 cn;have HGO:=aA1 hg;have HGL:=aA1 hG;have hn:g.ids.length<=24:=by rw [hg.ids];exact hg.le
 obtain ⟨i0,hi0,hz0,hz1,hz2⟩:=info_parts bJ0;obtain ⟨j0,hj0,hy0,hy1,hy2⟩:=info_parts bGr
 have HT:Hid (∀ u,u<g.ids.length->(aAa p g).getD u []=aEp p g u):=fun u hu=>by
  unfold aAa;simp [List.getD_eq_getElem?_getD,hu]
 clear cn hc hg hG;go_enter func151,ntmps151
 go_wp2_with (at_make;refine aCu _ rfl 189 (.tmp 11) (.tmp 11) rfl (w.heap.size+1+1) 235 i0 (.slice none 0 0) 1 underlying189 hi0 hz0 hz1 .i64 .i64 g.ids.length rfl rfl (by rw [hz2];omega) (by unfold maxLen;omega) (by simp) ?_;intro gb w1 hown hb;have HW:=hb;rw [aEj _ rfl] at hown;have HO:=aA1 hown;clear hown hb)
 obtain ⟨hgb1,hgb2⟩:=aAf HO.out;obtain ⟨p0,p1,p2,g0,g1,gsz⟩:=aA6 HW;go_wp2;clear p0 p1 p2 g0 g1 gsz
 go_loopg [6,7,8,15] g.ids.length (fun m _x _y _u z wr=>∃ (v:Nat) (hs:List Value),v<=g.ids.length/\m=g.ids.length-v/\z = .int .i64 v/\Hid (wr.ownsRow (w.heap.size+1+1) 235 1 (.slice (some ⟨gb,0,none⟩) g.ids.length g.ids.length) g.ids.length hs)/\Hid (aPv wr w.heap.size p.vars.length gb v hs (aAa p g))/\Bel ((w.alloc (.cells #[.string p.name,.slice A p.vars.length k,.slice A2 p.rules.length k2] 25)).alloc (.cells #[.slice A3 g.ids.length k3,.slice A4 g.ports.length k4] 29)) wr)
 case atStart=>exact ⟨0,_,by omega,rfl,rfl,HO,fun u hu=>absurd hu (by omega),HW⟩
 case round =>
  clear HO HW hgb2;obtain ⟨wo,rfl⟩:∃ wo:World,wo=wr:=⟨_,rfl⟩;obtain ⟨v,hs,hv,rfl,rfl,HO,HD,HW⟩:=hrel
  by_cases hlt:v<g.ids.length
  .have hd0:decide (v<g.ids.length)=true:=by simpa using hlt
   obtain ⟨p0,p1,p2,g0,g1,gsz⟩:=aA6 HW;have hwo:w.heap.size+1<wo.heap.size:=gsz;have hsl:hs.length=g.ids.length:=by have:=HO.out.1;omega
   have hfr0:=Fr.refl gb wo;have hvp:v<g.ports.length:=by rw [<- HGO.out.ids];exact hlt
   obtain ⟨row,hrow⟩:∃ row:List Term,row=(aEp p g v).map (fun x=>(⟨x.1,x.2⟩:Term)):=⟨_,rfl⟩;have hrl:row.length=p.vars.length:=by rw [hrow];simp [aEp]
   have HROW:=aA1 hrow;have HRL:=aA1 hrl;clear hrow hrl
   go_wp2_with (at_make;refine aCu _ rfl 235 (.tmp 22) (.tmp 22) rfl wo.heap.size 237 j0 (.agg #[.int .i64 0,.int .i64 0]) 2 underlying235 hj0 hy0 hy1 .i64 .i64 p.vars.length rfl rfl (by rw [hy2];omega) (by unfold maxLen;omega) (Nat.le_refl _) ?_;intro gr w1 hown hb;rw [bGa] at hown;have HR:=aA1 hown;have HB1:=aA1 hb;have HO1:=aA1 (hb.owns HO.out);have y1:=aC8 HO1.out v (by omega);have y2:=HO1.out.frozenAt v;have ygb:=(aAf HO1.out).2;have hgr:=aAf hown;have HW1:=(HW.trans hb).setCell (p:=⟨gb,v,none⟩) (by simp;omega) (.slice (some ⟨gr,0,none⟩) p.vars.length p.vars.length);clear p0 p1 p2 g0 g1 gsz;obtain ⟨p0,p1,p2,g0,g1,gsz⟩:=aA6 HW1;clear hown hb)
   have HO2:=aA1 (HO1.out.stored v (.slice (some ⟨gr,0,none⟩) p.vars.length p.vars.length)).1;have hne:gb≠gr:=by have:=(aAf HO.out).2;omega
   have HF1:=((Fr.of_bel (g:=gb) HB1.out).set v (.slice (some ⟨gr,0,none⟩) p.vars.length p.vars.length));have HR2:=aA1 (aIb HR.out ((Fr.refl gb w1).set v (.slice (some ⟨gr,0,none⟩) p.vars.length p.vars.length)) (Ne.symm hne));have hgr0:=(aAf HR.out).1;clear HO1 HR HB1 y1 y2 ygb hgr p0 p1 p2 g0 g1 gsz hd0;generalize hw2:w1.setCell ⟨gb,v,none⟩ (.slice (some ⟨gr,0,none⟩) p.vars.length p.vars.length)=w2 at *;clear hw2
   go_loopg [7,8,28] p.vars.length (fun m _x _y z ws=>∃ j:Nat,j<=p.vars.length/\m=p.vars.length-j/\z = .int .i64 j/\Hid (ws.ownsRow wo.heap.size 237 2 (.slice (some ⟨gr,0,none⟩) p.vars.length p.vars.length) p.vars.length ((aOc row j).flatMap aD5))/\Hid (ws.ownsRow (w.heap.size+1+1) 235 1 (.slice (some ⟨gb,0,none⟩) g.ids.length g.ids.length) g.ids.length (hs.set v (.slice (some ⟨gr,0,none⟩) p.vars.length p.vars.length)))/\Fr gb wo ws/\Bel ((w.alloc (.cells #[.string p.name,.slice A p.vars.length k,.slice A2 p.rules.length k2] 25)).alloc (.cells #[.slice A3 g.ids.length k3,.slice A4 g.ports.length k4] 29)) ws)
   case atStart =>
    refine ⟨0,by omega,rfl,rfl,?_,HO2,HF1,HW1⟩
    show World.ownsRow _ _ _ _ _ _ _
    rw [bDb,HRL.out];exact HR2.out
   case round =>
    clear HO2 HF1 HW1 HR2 HW;obtain ⟨j,hj,rfl,rfl,HR,HO2,HF,HW⟩:=hrel
    by_cases hlt2:j<p.vars.length
    .have hd0:decide (j<p.vars.length)=true:=by simpa using hlt2
     obtain ⟨p0,p1,p2,g0,g1,gsz⟩:=aA6 HW;obtain ⟨b,o,rfl,hb,c0,c1',c2,c3,c4,c5⟩:=(HV.out _ (aA0 HW)).at_ j hlt2;have HNX:=aA1 (List.all_eq_true.1 HCN.out _ (List.getElem_mem hlt2))
     have hrj:row[j]'(by rw [HRL.out];exact hlt2)=⟨(aAg p.vars[j] g v).1,(aAg p.vars[j] g v).2⟩:=by
      have:=HROW.out;subst this;simp [aEp]
     have HRJ:=aA1 hrj;clear hrj
     have hhd:wr.cell? ⟨gb,v,none⟩=some (.slice (some ⟨gr,0,none⟩) p.vars.length p.vars.length):=by
      have:=aC8 HO2.out v (by simp;omega)
      simpa using this
     have hgbl:=(aAf HO2.out).2;have hgrl:=(aAf HR.out).2;have HW1:=HW.alloc (.cells #[.string p.vars[j].name,.int .i64 p.vars[j].kind,.int .i64 p.vars[j].lo,.int .i64 p.vars[j].hi,.int .i64 p.vars[j].perNode,.int .i64 p.vars[j].perID] 159);have HG:=(Fr.refl gr (wr.alloc (.cells #[.string p.vars[j].name,.int .i64 p.vars[j].kind,.int .i64 p.vars[j].lo,.int .i64 p.vars[j].hi,.int .i64 p.vars[j].perNode,.int .i64 p.vars[j].perID] 159))).drew;have HR1:=aA1 (HR.out.alloc (.cells #[.string p.vars[j].name,.int .i64 p.vars[j].kind,.int .i64 p.vars[j].lo,.int .i64 p.vars[j].hi,.int .i64 p.vars[j].perNode,.int .i64 p.vars[j].perID] 159)).drew
     have hcell:=aA1 (fun w' (kk:Fr gr (wr.alloc (.cells #[.string p.vars[j].name,.int .i64 p.vars[j].kind,.int .i64 p.vars[j].lo,.int .i64 p.vars[j].hi,.int .i64 p.vars[j].perNode,.int .i64 p.vars[j].perID] 159)) w')=>by
      have hB:=(Bel.refl wr).alloc (.cells #[.string p.vars[j].name,.int .i64 p.vars[j].kind,.int .i64 p.vars[j].lo,.int .i64 p.vars[j].hi,.int .i64 p.vars[j].perNode,.int .i64 p.vars[j].perID] 159);have hbx:=Blk.new wr #[.string p.vars[j].name,.int .i64 p.vars[j].kind,.int .i64 p.vars[j].lo,.int .i64 p.vars[j].hi,.int .i64 p.vars[j].perNode,.int .i64 p.vars[j].perID] 159;have hsz:=kk.1;simp only [World.size_alloc] at hsz
      have hn1:wr.heap.size≠gr:=by omega
      have hn2:w.heap.size+1≠gr:=by omega
      exact show w'.cell? ⟨gb,v,none⟩=some (.slice (some ⟨gr,0,none⟩) p.vars.length p.vars.length)/\w'.cell? ⟨wr.heap.size,0,none⟩=some (.string p.vars[j].name)/\w'.cell? ⟨wr.heap.size,1,none⟩=some (.int .i64 p.vars[j].kind)/\w'.cell? ⟨wr.heap.size,2,none⟩=some (.int .i64 p.vars[j].lo)/\w'.cell? ⟨wr.heap.size,3,none⟩=some (.int .i64 p.vars[j].hi)/\w'.cell? ⟨wr.heap.size,4,none⟩=some (.int .i64 p.vars[j].perNode)/\w'.cell? ⟨wr.heap.size,5,none⟩=some (.int .i64 p.vars[j].perID)/\w'.cell? ⟨w.heap.size+1,0,none⟩=some (.slice A3 g.ids.length k3)/\w'.cell? ⟨w.heap.size+1,1,none⟩=some (.slice A4 g.ports.length k4)/\gb<w'.heap.size/\wr.heap.size<w'.heap.size/\w.heap.size+1<w'.heap.size/\gr<w'.heap.size from
       ⟨(kk.cell (by simp;omega) hne).trans ((hB.cell hgbl).trans hhd),(kk.cell (by simp) hn1).trans (hbx.cell 0 rfl),(kk.cell (by simp) hn1).trans (hbx.cell 1 rfl),(kk.cell (by simp) hn1).trans (hbx.cell 2 rfl),(kk.cell (by simp) hn1).trans (hbx.cell 3 rfl),(kk.cell (by simp) hn1).trans (hbx.cell 4 rfl),(kk.cell (by simp) hn1).trans (hbx.cell 5 rfl),(kk.cell (by simp;omega) hn2).trans ((hB.cell (by omega)).trans g0),(kk.cell (by simp;omega) hn2).trans ((hB.cell (by omega)).trans g1),by omega,by omega,by omega,by omega⟩)
     have hfg:=bFp row j (by rw [HRL.out];exact hlt2)
     obtain ⟨f1,f2⟩:=aL7 _ j _ hfg;have HF1':=aA1 f1;have HF2':=aA1 f2;have hjm:j*2<p.vars.length*2:=by omega
     have hdv:decide (v<g.ids.length)=true:=by simpa using hlt
     clear hfg f1 f2
     go_wp2_with fail
     replace HW1:=HW1.drew
     go_region_held3 (fun w'=>w'.cell? ⟨gb,v,none⟩=some (.slice (some ⟨gr,0,none⟩) p.vars.length p.vars.length)/\w'.cell? ⟨wr.heap.size,0,none⟩=some (.string p.vars[j].name)/\w'.cell? ⟨wr.heap.size,1,none⟩=some (.int .i64 p.vars[j].kind)/\w'.cell? ⟨wr.heap.size,2,none⟩=some (.int .i64 p.vars[j].lo)/\w'.cell? ⟨wr.heap.size,3,none⟩=some (.int .i64 p.vars[j].hi)/\w'.cell? ⟨wr.heap.size,4,none⟩=some (.int .i64 p.vars[j].perNode)/\w'.cell? ⟨wr.heap.size,5,none⟩=some (.int .i64 p.vars[j].perID)/\w'.cell? ⟨w.heap.size+1,0,none⟩=some (.slice A3 g.ids.length k3)/\w'.cell? ⟨w.heap.size+1,1,none⟩=some (.slice A4 g.ports.length k4)/\gb<w'.heap.size/\wr.heap.size<w'.heap.size/\w.heap.size+1<w'.heap.size/\gr<w'.heap.size)
      (first | exact hcell.out _ HG | exact hcell.out _ (HG.set _ _) | exact hcell.out _ ((HG.set _ _).set _ _))
      (first | (go_simp;go_at_call 203;refine (aLc p.vars[j] _ g v _ (HGV.out _ (aA0 HW1)) HNX.out HGO.out hvp HGL.out).mono ?_;rintro e w4 ⟨rfl,hbb⟩;replace HW1:=HW1.trans hbb;replace HG:=HG.trans (Fr.of_bel hbb);replace HR1:=aA1 (hbb.owns HR1.out);clear hbb;have y1:=(aBv HR1.out HF1'.out);have y2:=(aBv HR1.out HF2'.out);obtain ⟨q1,e1,_,_,y1,z1⟩:=y1;obtain ⟨q2,e2,_,_,y2,z2⟩:=y2;obtain rfl:gr=q1:=(by simpa using e1);obtain rfl:gr=q2:=(by simpa using e2);clear e1 e2))
     go_wp2_with fail
     go_roundg (p.vars.length-(j+1))
     case rel =>
      have hst:=((HR1.out.stored (j*2) (.int .i64 (aAg p.vars[j] g v).1)).1.stored (j*2+1) (.int .i64 (aAg p.vars[j] g v).2)).1;have e2:=aTb (aOc row j) j (row[j]'(by rw [HRL.out];exact hlt2)) (by rw [aX9,HRL.out];exact hlt2)
      rw [bDa _ _ (by rw [HRL.out];exact hlt2),HRJ.out] at e2
      rw [e2] at hst;refine ⟨j+1,by omega,rfl,by go_num,hst,?_,?_,?_⟩
      .exact aIb (HO2.out.alloc _) ((HG.set _ _).set _ _) hne
      .exact (HF.alloc _).newer hgr0 ((HG.set _ _).set _ _)
      .exact (HW1.setCell (by simp;omega) _).setCell (by simp;omega) _
     case measure=>omega
    .have hd0:decide (j<p.vars.length)=false:=by simpa using hlt2
     obtain rfl:j=p.vars.length:=by omega
     go_wp2_with fail
     go_roundg (g.ids.length-(v+1))
     case rel =>
      refine ⟨v+1,_,by omega,rfl,by go_num,HO2,?_,HW⟩
      intro u hu
      rcases Nat.lt_or_ge u v with h | h
      .obtain ⟨gu,h1,h2,h3,h4⟩:=(HD.out.kept HF) u h
       exact ⟨gu,by rw [List.getElem?_set_ne (by omega)];exact h1,h2,h3,h4⟩
      .obtain rfl:u=v:=by omega
       refine ⟨gr,by rw [List.getElem?_set_self (by omega)],Ne.symm hne,(aAf HR.out).2,by have:=(aAf HR.out).1;omega,fun x i hx=>?_⟩
       have hR:=HR.out;rw [bD9 _ _ (by rw [HRL.out];exact Nat.le_refl _)] at hR
       rw [HT.out _ hlt] at hx;obtain ⟨f1,f2⟩:=aL7 row i ⟨x.1,x.2⟩ (by rw [HROW.out,List.getElem?_map,hx];rfl)
       obtain ⟨q1,e1,_,_,y1,_⟩:=aBv hR f1;obtain ⟨q2,e2,_,_,y2,_⟩:=aBv hR f2;obtain rfl:gr=q1:=by simpa using e1
       obtain rfl:gr=q2:=by simpa using e2
       exact ⟨y1,y2⟩
     case measure=>omega
  .have hd0:decide (v<g.ids.length)=false:=by simpa using hlt
   go_wp2_with fail
   go_ret;have hl:(aAa p g).length=g.ids.length:=by simp [aAa]
   refine ⟨_,rfl,fun W hW=>⟨some ⟨gb,0,none⟩,g.ids.length,by rw [hl];rfl,⟨rfl,fun u x hx=>?_⟩,by omega,by unfold maxLen;omega⟩,aA0 HW⟩
   have hu:u<g.ids.length:=by have:=(List.getElem?_eq_some_iff.1 hx).1;omega
   obtain ⟨gu,h1,h2,h3,h5,h4⟩:=HD.out u (by omega)
   obtain ⟨g',e1,_,hlt',hcell,_⟩:=aBv HO.out h1;obtain rfl:gb=g':=by simpa using e1
   have hrow:(aAa p g).getD u []=x:=by rw [List.getD_eq_getElem?_getD,hx];rfl
   have hxl:x.length=p.vars.length:=by rw [<- hrow,HT.out u hu];simp [aEp]
   refine ⟨gb,0,rfl,Nat.lt_of_lt_of_le hlt' hW.1,some ⟨gu,0,none⟩,p.vars.length,?_,⟨rfl,fun i y hy=>⟨gu,0,rfl,Nat.lt_of_lt_of_le h3 hW.1,?_⟩⟩,by omega,by unfold maxLen;omega⟩
   .rw [hxl,Nat.zero_add,Nat.mul_one,hW.cell (by omega) hlt'];exact hcell
   .have:=h4 y i (by rw [hrow];exact hy)
    rw [Nat.zero_add];exact ⟨(hW.cell h5 h3).trans this.1,(hW.cell h5 h3).trans this.2⟩
theorem aJ6 (v:Value) (p:Prg) (v2:Value) (g:Graph) (w:World) (h:aE0 w v p) (h2:aAl w v2 g) (hc:aBm p=0) (hg:GOK g) (hG:aB3 g=true) :
  Calls prog 151 #[v,v2] w (bI4 (aAa p g) w):=(aUh v p v2 g w h h2 hc hg hG).mono fun _ _ ⟨v,h1,h2,h3⟩=>⟨v,h1,h2 _ (aFd.refl _ _),h3⟩
def aG0 (row:List (Int × Int)) (s:List Int):Bool:=decide (s.length=row.length)&&(List.range s.length).all fun i=>decide ((row.getD i (0,0)).1<=s.getD i 0/\s.getD i 0<=(row.getD i (0,0)).2)
def aJd (t:List (List (Int × Int))) (c:aA8):Bool:=decide (c.length=t.length)&&(List.range c.length).all fun v=>aG0 (t.getD v []) (c.getD v [])
def aCp (p:Prg) (g:Graph) (c:aA8):Int:=if aCf p g≠0 then aCf p g else if aJd (aAa p g) c=false then 10 else 0
theorem aCn {row:List (Int × Int)} {s:List Int}:aG0 row s=true↔s.length=row.length/\∀ i,(h1:i<s.length)->(h2:i<row.length)->row[i].1<=s[i]/\s[i]<=row[i].2:=by
 unfold aG0;simp only [Bool.and_eq_true,decide_eq_true_eq,List.all_eq_true,List.mem_range]
 constructor
 .rintro ⟨h1,h2⟩
  refine ⟨h1,fun i a b=>?_⟩
  have:=h2 i a
  rwa [aA7 a,aA7 b] at this
 .rintro ⟨h1,h2⟩
  refine ⟨h1,fun i a=>?_⟩
  have:=h2 i a (by omega)
  rwa [aA7 a,aA7 (by omega)]
theorem aCy {t:List (List (Int × Int))} {c:aA8}:aJd t c=true↔c.length=t.length/\∀ v,(h1:v<c.length)->(h2:v<t.length)->aG0 t[v] c[v]=true:=by
 unfold aJd;simp only [Bool.and_eq_true,decide_eq_true_eq,List.all_eq_true,List.mem_range]
 constructor
 .rintro ⟨h1,h2⟩
  refine ⟨h1,fun i a b=>?_⟩
  have:=h2 i a
  rwa [aA7 a,aA7 b] at this
 .rintro ⟨h1,h2⟩
  refine ⟨h1,fun i a=>?_⟩
  have:=h2 i a (by omega)
  rwa [aA7 a,aA7 (by omega)]
theorem aPi {row:List (Int × Int)} {s:List Int} (h:¬ (s.length=row.length/\∀ i,(h1:i<s.length)->(h2:i<row.length)->row[i].1<=s[i]/\s[i]<=row[i].2)):aG0 row s=false:=by
 rw [Bool.eq_false_iff];intro hb;exact h (aCn.1 hb)
theorem aHm {t:List (List (Int × Int))} {c:aA8} (h:¬ (c.length=t.length/\∀ v,(h1:v<c.length)->(h2:v<t.length)->aG0 t[v] c[v]=true)):aJd t c=false:=by
 rw [Bool.eq_false_iff];intro hb;exact h (aCy.1 hb)
theorem aVj {a b:Nat} (h:a≠b):(a != b)=true/\((a:Int) != (b:Int))=true:=⟨by simpa using h,by simp;omega⟩
theorem aFg {c:aA8} (h:aE1 c=true):c.length<=30/\∀ r∈c,r.length<=10:=by
 unfold aE1 at h;simp at h
 exact h
theorem aZ0 (A:Option Addr) (c:Nat) (row:List (Int × Int)) (B:Option Addr) (c2:Nat) (s:List Int) (w:World) (h1:aKg w A row.length row) (h2:aB7 w B s.length s) (hl:s.length<=1000) :
  Calls prog 204 #[.slice A row.length c,.slice B s.length c2] w fun e w'=>e = .returned (.bool (aG0 row s))/\w=w':=by
 have H1:=aA1 h1;clear h1;have H2:=aA1 h2;clear h2
 by_cases hn:s.length=row.length
 .have HN:=aA1 hn
  rw [<- hn] at H1 ⊢;clear hn;have hb:(s.length != s.length)=false:=by simp
  go_enter func204,ntmps204;go_wp2;clear hb
  go_loopg [5,6,14] s.length (fun m _x _y z wr=>∃ j:Nat,j<=s.length/\m=s.length-j/\z = .int .i64 j/\Hid (∀ i,i<j->(h1:i<s.length)->(h2:i<row.length)->row[i].1<=s[i]/\s[i]<=row[i].2)/\w=wr)
  case atStart=>exact ⟨0,by omega,rfl,rfl,fun i hi=>absurd hi (by omega),rfl⟩
  case round =>
   obtain ⟨j,hj,rfl,rfl,HJ,rfl⟩:=hrel
   by_cases hlt:j<s.length
   .have hd0:decide (j<s.length)=true:=by simpa using hlt
    have hlt2:j<row.length:=by rw [<- HN.out];exact hlt
    obtain ⟨b,o,rfl,hb,hc⟩:=H2.out.at_ j hlt;obtain ⟨b',o',rfl,hb',k1,k2⟩:=H1.out.at_ j hlt2
    by_cases hr:row[j].1<=s[j]/\s[j]<=row[j].2
    .have d1:decide (s[j]<row[j].1)=false:=by simp;omega
     have d2:decide (row[j].2<s[j])=false:=by simp;omega
     have HR:=aA1 hr;clear hr
     go_wp2_with fail
     go_roundg (s.length-(j+1))
     case rel =>
      refine ⟨j+1,by omega,rfl,by go_num,?_,rfl⟩
      intro i hi a1 a2
      rcases Nat.lt_or_ge i j with h | h
      .exact HJ.out i h a1 a2
      .obtain rfl:i=j:=by omega
       exact HR.out
     case measure=>omega
    .have HF:Hid (aG0 row s=false):=aPi fun h=>hr (h.2 j hlt hlt2)
     by_cases h1:s[j]<row[j].1
     .have d1:decide (s[j]<row[j].1)=true:=by simpa using h1
      clear hr
      go_wp2_with fail
      go_ret;exact ⟨aA2 HF.out.symm,rfl⟩
     .have d1:decide (s[j]<row[j].1)=false:=by simpa using h1
      have d2:decide (row[j].2<s[j])=true:=by simp;omega
      clear hr
      go_wp2_with fail
      go_ret;exact ⟨aA2 HF.out.symm,rfl⟩
   .have hd0:decide (j<s.length)=false:=by simpa using hlt
    go_wp2_with fail
    go_ret;refine ⟨aA2 ?_,rfl⟩
    symm
    rw [aCn];exact ⟨HN.out,fun i a b=>HJ.out i (by omega) a b⟩
 .obtain ⟨n1,n2⟩:=aVj hn
  have HF:Hid (aG0 row s=false):=aPi fun h=>hn h.1;clear hn;go_enter func204,ntmps204;go_wp2;go_ret;exact ⟨aA2 HF.out.symm,rfl⟩
theorem aNe (v:Value) (t:List (List (Int × Int))) (v2:Value) (c:aA8) (w:World) (h1:aI2 w v t) (h2:aDf w v2 c) (hl:aE1 c=true) :
  Calls prog 150 #[v,v2] w fun e w'=>e = .returned (.bool (aJd t c))/\w=w':=by
 obtain ⟨A,k,rfl,hT,_,_⟩:=h1;obtain ⟨B,k2,rfl,hC,_,_⟩:=h2;have H1:=aA1 hT;clear hT;have H2:=aA1 hC;clear hC;obtain ⟨l1,l2⟩:=aFg hl;have HL2:=aA1 l2;clear l2 hl
 by_cases hn:c.length=t.length
 .have HN:=aA1 hn
  rw [<- hn] at H1 ⊢;clear hn;have hb:(c.length != c.length)=false:=by simp
  go_enter func150,ntmps150;go_wp2;clear hb
  go_loopg [5,6,14] c.length (fun m _x _y z wr=>∃ j:Nat,j<=c.length/\m=c.length-j/\z = .int .i64 j/\Hid (∀ i,i<j->(h1:i<c.length)->(h2:i<t.length)->aG0 t[i] c[i]=true)/\w=wr)
  case atStart=>exact ⟨0,by omega,rfl,rfl,fun i hi=>absurd hi (by omega),rfl⟩
  case round =>
   obtain ⟨j,hj,rfl,rfl,HJ,rfl⟩:=hrel
   by_cases hlt:j<c.length
   .have hd0:decide (j<c.length)=true:=by simpa using hlt
    have hlt2:j<t.length:=by rw [<- HN.out];exact hlt
    obtain ⟨b,o,R,rc,rfl,hb,hc,hI,_,_⟩:=H2.out.at_ j hlt;obtain ⟨b',o',R',rc',rfl,hb',hc',hP,_,_⟩:=H1.out.at_ j hlt2;have HI:=aA1 hI;have HP:=aA1 hP;have hle:=HL2.out _ (List.getElem_mem hlt);clear hI hP;cases hs:aG0 t[j] c[j] with
    | true =>
     have HS:=aA1 hs;clear hs
     go_wp2_with (go_at_call 204;refine (aZ0 _ _ t[j] _ _ c[j] _ HP.out HI.out (by omega)).mono ?_;rintro e w' ⟨rfl,rfl⟩;rw [HS.out])
     go_roundg (c.length-(j+1))
     case rel =>
      refine ⟨j+1,by omega,rfl,by go_num,?_,rfl⟩
      intro i hi a1 a2
      rcases Nat.lt_or_ge i j with h | h
      .exact HJ.out i h a1 a2
      .obtain rfl:i=j:=by omega
       exact HS.out
     case measure=>omega
    | false =>
     have HF:Hid (aJd t c=false):=aHm fun h=>by have:=h.2 j hlt hlt2;rw [hs] at this;cases this
     have HS:=aA1 hs;clear hs
     go_wp2_with (go_at_call 204;refine (aZ0 _ _ t[j] _ _ c[j] _ HP.out HI.out (by omega)).mono ?_;rintro e w' ⟨rfl,rfl⟩;rw [HS.out])
     go_ret;exact ⟨aA2 HF.out.symm,rfl⟩
   .have hd0:decide (j<c.length)=false:=by simpa using hlt
    go_wp2_with fail
    go_ret;refine ⟨aA2 ?_,rfl⟩
    symm
    rw [aCy];exact ⟨HN.out,fun i a b=>HJ.out i (by omega) a b⟩
 .obtain ⟨n1,n2⟩:=aVj hn
  have HF:Hid (aJd t c=false):=aHm fun h=>hn h.1;clear hn;go_enter func150,ntmps150;go_wp2;go_ret;exact ⟨aA2 HF.out.symm,rfl⟩
theorem aAe {p:Prg} {g:Graph} (h:aCf p g=0):aBm p=0/\GOK g/\p.vars.all (aJg g)=true:=by
 unfold aCf at h;split at h
 .cases h
 .rename_i h1
  split at h
  .cases h
  .rename_i h2
   split at h
   .cases h
   .rename_i h3
    exact ⟨by simpa using h1,(aG7 g).1 (by simpa using h2),by simpa using h3⟩
theorem aKq (v:Value) (p:Prg) (v2:Value) (g:Graph) (v3:Value) (c:aA8) (w:World) (h:aE0 w v p) (h2:aAl w v2 g) (h3:aDf w v3 c) (hL:aAt p=true) (hG:aB3 g=true) (hC:aE1 c=true) :
  Calls prog 101 #[v,v2,v3] w fun e w'=>e = .returned (.int .i64 (aCp p g c))/\Bel w w':=by
 have HPV:=aA1 (fun w' (k:Bel w w')=>h.keep k);have HGV:=aA1 (fun w' (k:Bel w w')=>h2.keep k);have HCV:=aA1 (fun w' (k:Bel w w')=>h3.keep k);obtain ⟨A,k,A2,k2,rfl,_,_,_,_,_,_⟩:=h;obtain ⟨A3,k3,A4,k4,rfl,_,_,_,_,_,_⟩:=h2;obtain ⟨A5,k5,rfl,_,_,_⟩:=h3;have HL:=aA1 hL;have HGL:=aA1 hG;have HCL:=aA1 hC;clear hL hG hC;have HW:=Bel.refl ((w.alloc (.cells #[.string p.name,.slice A p.vars.length k,.slice A2 p.rules.length k2] 25)).alloc (.cells #[.slice A3 g.ids.length k3,.slice A4 g.ports.length k4] 29))
 by_cases hf:aCf p g=0
 .obtain ⟨f1,f2,_⟩:=aAe hf
  have HF1:=aA1 f1;have HF2:=aA1 f2;have HFZ:=aA1 hf;have HM:Hid (aCp p g c=if aJd (aAa p g) c=false then 10 else 0):=by show aCp p g c=_;unfold aCp;rw [if_neg (by simpa using hf)]
  clear hf f1 f2;cases hb:aJd (aAa p g) c with
  | true =>
   rw [hb,if_neg (by decide)] at HM
   have HBB:=aA1 hb;clear hb;go_enter func101,ntmps101
   go_wp2_with (first
    | (go_at_call 149;refine (aLe _ p _ g _ (HPV.out _ (aA0 HW)) (HGV.out _ (aA0 HW)) HL.out HGL.out).mono ?_;rintro e w' ⟨rfl,hb⟩;rw [HFZ.out];replace HW:=HW.trans hb;clear hb;obtain ⟨p0,p1,p2,g0,g1,gsz⟩:=aA6 HW)
    | (go_at_call 151;refine (aJ6 _ p _ g _ (HPV.out _ (aA0 HW)) (HGV.out _ (aA0 HW)) HF1.out HF2.out HGL.out).mono ?_;rintro e w' ⟨tv,rfl,htv,hb⟩;replace HW:=HW.trans hb;have HTV:=aA1 htv;clear hb htv)
    | (go_at_call 150;refine (aNe _ (aAa p g) _ c _ HTV.out (HCV.out _ (aA0 HW)) HCL.out).mono ?_;rintro e w' ⟨rfl,rfl⟩;rw [HBB.out]))
   go_ret;exact ⟨aA4 HM.out.symm,aA0 HW⟩
  | false =>
   rw [hb,if_pos rfl] at HM;have HBB:=aA1 hb;clear hb;go_enter func101,ntmps101
   go_wp2_with (first
    | (go_at_call 149;refine (aLe _ p _ g _ (HPV.out _ (aA0 HW)) (HGV.out _ (aA0 HW)) HL.out HGL.out).mono ?_;rintro e w' ⟨rfl,hb⟩;rw [HFZ.out];replace HW:=HW.trans hb;clear hb;obtain ⟨p0,p1,p2,g0,g1,gsz⟩:=aA6 HW)
    | (go_at_call 151;refine (aJ6 _ p _ g _ (HPV.out _ (aA0 HW)) (HGV.out _ (aA0 HW)) HF1.out HF2.out HGL.out).mono ?_;rintro e w' ⟨tv,rfl,htv,hb⟩;replace HW:=HW.trans hb;have HTV:=aA1 htv;clear hb htv)
    | (go_at_call 150;refine (aNe _ (aAa p g) _ c _ HTV.out (HCV.out _ (aA0 HW)) HCL.out).mono ?_;rintro e w' ⟨rfl,rfl⟩;rw [HBB.out]))
   go_ret;exact ⟨aA4 HM.out.symm,aA0 HW⟩
 .have HM:Hid (aCp p g c=aCf p g):=by show aCp p g c=_;unfold aCp;rw [if_pos hf]
  have hfb:(aCf p g != 0)=true:=by simpa using hf
  go_enter func101,ntmps101
  go_wp2_with (go_at_call 149;refine (aLe _ p _ g _ (HPV.out _ (aA0 HW)) (HGV.out _ (aA0 HW)) HL.out HGL.out).mono ?_;rintro e w' ⟨rfl,hb⟩;replace HW:=HW.trans hb;clear hb)
  go_ret;exact ⟨aA4 HM.out.symm,aA0 HW⟩
theorem aAj (p:Prg) (g:Graph):(aAa p g).length=g.ids.length:=by simp [aAa]
theorem aDe {p:Prg} {g:Graph} {v:Nat} (h:v<(aAa p g).length):(aAa p g)[v]=aEp p g v:=by simp [aAa]
theorem aBu (p:Prg) (g:Graph) (v:Nat):(aEp p g v).length=p.vars.length:=by simp [aEp]
theorem aVv {p:Prg} {g:Graph} {v i:Nat} (h:i<(aEp p g v).length):(aEp p g v)[i]=aAg (p.vars[i]'(by rw [aBu] at h;exact h)) g v:=by simp [aEp]
theorem aBb (v:Value) (p:Prg) (v2:Value) (g:Graph) (v3:Value) (c:aA8) (w:World) (h:aE0 w v p) (h2:aAl w v2 g) (h3:aDf w v3 c) (hL:aAt p=true) (hG:aB3 g=true) (hC:aE1 c=true) :
  Calls prog 104 #[v,v2,v3] w fun e w'=>e = .returned (.int .i64 (aCp p g c))/\Bel w w':=by
 have HPV:=aA1 (fun w' (k:Bel w w')=>h.keep k);have HGV:=aA1 (fun w' (k:Bel w w')=>h2.keep k);obtain ⟨A,k,A2,k2,rfl,_,_,_,_,_,_⟩:=h;obtain ⟨A3,k3,A4,k4,rfl,_,_,_,_,_,_⟩:=h2;obtain ⟨A5,k5,rfl,hCR,_,_⟩:=h3;have HCR:=aA1 (fun w' (k:Bel w w')=>aMd.keep hCR k);clear hCR;have HL:=aA1 hL;have HGL:=aA1 hG;obtain ⟨l1,l2⟩:=aFg hC;have HL2:=aA1 l2;clear hL hG hC l2;have HW:=Bel.refl ((w.alloc (.cells #[.string p.name,.slice A p.vars.length k,.slice A2 p.rules.length k2] 25)).alloc (.cells #[.slice A3 g.ids.length k3,.slice A4 g.ports.length k4] 29))
 by_cases hf:aCf p g=0
 .obtain ⟨f1,f2,_⟩:=aAe hf
  have HF1:=aA1 (aB6 f1);have HF2:=aA1 f2;have HFZ:=aA1 hf;have HM:Hid (aCp p g c=if aJd (aAa p g) c=false then 10 else 0):=by show aCp p g c=_;unfold aCp;rw [if_neg (by simpa using hf)]
  have HTL:Hid ((aAa p g).length=g.ports.length):=by show (aAa p g).length=_;rw [aAj,f2.ids]
  clear hf f1 f2;have hv6:=HF1.out.2.2.1
  by_cases hn:c.length=g.ports.length
  .have hb:(c.length != c.length)=false:=by simp
   have HN:=aA1 hn;rw [<- hn] at HGV HW ⊢;clear hn;go_enter func104,ntmps104
   go_wp2_with (go_at_call 136;refine (aF9 _ p _ g _ (HPV.out _ (aA0 HW)) (HGV.out _ (aA0 HW)) HL.out HGL.out).mono ?_;rintro e w' ⟨rfl,hb⟩;rw [HFZ.out];replace HW:=HW.trans hb;clear hb;obtain ⟨p0,p1,p2,g0,g1,gsz⟩:=aA6 HW)
   clear hb p0 p1 p2 g0 g1 gsz
   go_loopg [8,9,10,11] c.length (fun m z _y _x _u wr=>∃ j:Nat,j<=c.length/\m=c.length-j/\z = .int .i64 j/\Hid (∀ i,i<j->(h1:i<c.length)->aG0 (aEp p g i) c[i]=true)/\Bel ((w.alloc (.cells #[.string p.name,.slice A p.vars.length k,.slice A2 p.rules.length k2] 25)).alloc (.cells #[.slice A3 g.ids.length k3,.slice A4 c.length k4] 29)) wr)
   case atStart=>exact ⟨0,by omega,rfl,rfl,fun i hi=>absurd hi (by omega),HW⟩
   case round =>
    clear HW;obtain ⟨v,hv,rfl,rfl,HJ,HW⟩:=hrel;obtain ⟨p0,p1,p2,g0,g1,gsz⟩:=aA6 HW
    by_cases hlt:v<c.length
    .have hd0:decide (v<c.length)=true:=by simpa using hlt
     have hvp:v<g.ports.length:=by rw [<- HN.out];exact hlt
     obtain ⟨b,o,R,rc,rfl,hb,hc,hI,_,_⟩:=(HCR.out _ (aA0 HW)).at_ v hlt;have hrl:=HL2.out _ (List.getElem_mem hlt)
     by_cases hnl:c[v].length=p.vars.length
     .have hb1:(c[v].length != p.vars.length)=false:=by simpa using hnl
      have hb2:((c[v].length:Int) != (p.vars.length:Int))=false:=by simp;omega
      have HNL:=aA1 hnl;clear hnl
      go_wp2_with fail
      go_quiet (fail)
      go_wp2_with fail
      clear hb1 hb2 p0 p1 p2 g0 g1 gsz hd0 hb hc hI
      go_loopg [9,10,11] c[v].length (fun m z _y _x ws=>∃ j:Nat,j<=c[v].length/\m=c[v].length-j/\z = .int .i64 j/\Hid (∀ i,i<j->(h1:i<c[v].length)->(h2:i<(aEp p g v).length)->(aEp p g v)[i].1<=c[v][i]/\c[v][i]<=(aEp p g v)[i].2)/\Bel ((w.alloc (.cells #[.string p.name,.slice A p.vars.length k,.slice A2 p.rules.length k2] 25)).alloc (.cells #[.slice A3 g.ids.length k3,.slice A4 c.length k4] 29)) ws)
      case atStart=>exact ⟨0,by omega,rfl,rfl,fun i hi=>absurd hi (by omega),HW.drewN _⟩
      case round =>
       clear HW;obtain ⟨j,hj,rfl,rfl,HQ,HW⟩:=hrel;obtain ⟨p0,p1,p2,g0,g1,gsz⟩:=aA6 HW;obtain ⟨b',o',R',rc',e',hb,hc,hI,_,_⟩:=(HCR.out _ (aA0 HW)).at_ v hlt;obtain ⟨rfl,rfl⟩:b=b'/\o=o':=by simpa using e'
       clear e'
       by_cases hlt2:j<c[v].length
       .have hd0:decide (j<c[v].length)=true:=by simpa using hlt2
        have hjv:j<p.vars.length:=by rw [<- HNL.out];exact hlt2
        have hjr:j<(aEp p g v).length:=by rw [aBu];exact hjv
        have HRE:=aA1 (aVv hjr);have HNX:=aA1 (List.all_eq_true.1 HF1.out.1 _ (List.getElem_mem hjv));have hdv:decide (v<c.length)=true:=by simpa using hlt
        go_wp2_with fail
        refine (aH4 _ p _ g v j _ (HPV.out _ (aA0 HW)) (HGV.out _ (aA0 HW)) hjv HNX.out HF2.out hvp HGL.out).mono ?_
        rintro e w' ⟨rfl,hbe⟩;rw [<- HRE.out];replace HW:=HW.trans hbe;clear hbe p0 p1 p2 g0 g1 gsz hb hc hI;obtain ⟨p0,p1,p2,g0,g1,gsz⟩:=aA6 HW;obtain ⟨b',o',R2,rc2,e',hb,hc,hI,_,_⟩:=(HCR.out _ (aA0 HW)).at_ v hlt;obtain ⟨rfl,rfl⟩:b=b'/\o=o':=by simpa using e'
        clear e';obtain ⟨b3,o3,rfl,hb3,hc3⟩:=hI.at_ j hlt2
        by_cases hin:(aEp p g v)[j].1<=c[v][j]/\c[v][j]<=(aEp p g v)[j].2
        .have d1:inB c[v][j] (aEp p g v)[j].1 (aEp p g v)[j].2=true:=aEi hin.1 hin.2
         have HIN:=aA1 hin;clear hin
         go_wp2_with (go_at_call 110;refine (aBs _ _ _ _).mono ?_;rintro e w' ⟨rfl,rfl⟩)
         go_roundg (c[v].length-(j+1))
         case rel =>
          refine ⟨j+1,by omega,rfl,by go_num,?_,HW⟩
          intro i hi a1 a2
          rcases Nat.lt_or_ge i j with h | h
          .exact HQ.out i h a1 a2
          .obtain rfl:i=j:=by omega
           exact HIN.out
         case measure=>omega
        .have d1:inB c[v][j] (aEp p g v)[j].1 (aEp p g v)[j].2=false:=aHr (by omega)
         have HCF:Hid (aJd (aAa p g) c=false):=aHm fun hh=>by
          have h3:=hh.2 v hlt (by rw [HTL.out];exact hvp)
          rw [aDe] at h3;exact hin ((aCn.1 h3).2 j hlt2 hjr)
         rw [HCF.out,if_pos rfl] at HM;clear hin
         go_wp2_with (go_at_call 110;refine (aBs _ _ _ _).mono ?_;rintro e w' ⟨rfl,rfl⟩)
         go_ret;exact ⟨aA4 HM.out.symm,aA0 HW⟩
       .have hd0:decide (j<c[v].length)=false:=by simpa using hlt2
        have hdv:decide (v<c.length)=true:=by simpa using hlt
        go_wp2_with fail
        go_roundg (c.length-(v+1))
        case rel =>
         refine ⟨v+1,by omega,rfl,by go_num,?_,HW⟩
         intro i hi a1
         rcases Nat.lt_or_ge i v with h | h
         .exact HJ.out i h a1
         .obtain rfl:i=v:=by omega
          rw [aCn];exact ⟨by rw [aBu,HNL.out],fun q b1 b2=>HQ.out q (by omega) b1 b2⟩
        case measure=>omega
     .obtain ⟨n1,n2⟩:=aVj hnl
      have HCF:Hid (aJd (aAa p g) c=false):=aHm fun hh=>by
       have h3:=hh.2 v hlt (by rw [HTL.out];exact hvp)
       rw [aDe] at h3;have:=(aCn.1 h3).1;rw [aBu] at this;exact hnl this
      rw [HCF.out,if_pos rfl] at HM;clear hnl
      go_wp2_with fail
      go_quiet (fail)
      go_wp2_with fail
      go_ret;exact ⟨aA4 HM.out.symm,(aA0 HW).drewN _⟩
    .have hd0:decide (v<c.length)=false:=by simpa using hlt
     have HCF:Hid (aJd (aAa p g) c=true):=by
      show aJd (aAa p g) c=true
      rw [aCy];refine ⟨by rw [HTL.out,HN.out],fun i a1 a2=>?_⟩
      rw [aDe];exact HJ.out i (by omega) a1
     rw [HCF.out,if_neg (by decide)] at HM
     go_wp2_with fail
     go_ret;exact ⟨aA4 HM.out.symm,aA0 HW⟩
  .obtain ⟨n1,n2⟩:=aVj hn
   have HCF:Hid (aJd (aAa p g) c=false):=aHm fun hh=>hn (by rw [hh.1,HTL.out])
   rw [HCF.out,if_pos rfl] at HM;clear hn;go_enter func104,ntmps104
   go_wp2_with (go_at_call 136;refine (aF9 _ p _ g _ (HPV.out _ (aA0 HW)) (HGV.out _ (aA0 HW)) HL.out HGL.out).mono ?_;rintro e w' ⟨rfl,hb⟩;rw [HFZ.out];replace HW:=HW.trans hb;clear hb;obtain ⟨p0,p1,p2,g0,g1,gsz⟩:=aA6 HW)
   go_ret;exact ⟨aA4 HM.out.symm,aA0 HW⟩
 .have HM:Hid (aCp p g c=aCf p g):=by show aCp p g c=_;unfold aCp;rw [if_pos hf]
  have hfb:(aCf p g != 0)=true:=by simpa using hf
  go_enter func104,ntmps104
  go_wp2_with (go_at_call 136;refine (aF9 _ p _ g _ (HPV.out _ (aA0 HW)) (HGV.out _ (aA0 HW)) HL.out HGL.out).mono ?_;rintro e w' ⟨rfl,hb⟩;replace HW:=HW.trans hb;clear hb)
  go_ret;exact ⟨aA4 HM.out.symm,aA0 HW⟩
theorem aE9 (v:Value) (p:Prg) (v2:Value) (g:Graph) (v3:Value) (c:aA8) (w:World) (h:aE0 w v p) (h2:aAl w v2 g) (h3:aDf w v3 c) (hL:aAt p=true) (hG:aB3 g=true) (hC:aE1 c=true) :
  Calls prog 55 #[v,v2,v3] w fun e w'=>e = .returned (.bool (decide (aCp p g c=0)))/\Bel w w':=by
 have HPV:=aA1 (fun w' (k:Bel w w')=>h.keep k);have HGV:=aA1 (fun w' (k:Bel w w')=>h2.keep k);have HCV:=aA1 (fun w' (k:Bel w w')=>h3.keep k);obtain ⟨A,k,A2,k2,rfl,_,_,_,_,_,_⟩:=h;obtain ⟨A3,k3,A4,k4,rfl,_,_,_,_,_,_⟩:=h2;obtain ⟨A5,k5,rfl,_,_,_⟩:=h3;have HW:=Bel.refl ((w.alloc (.cells #[.string p.name,.slice A p.vars.length k,.slice A2 p.rules.length k2] 25)).alloc (.cells #[.slice A3 g.ids.length k3,.slice A4 g.ports.length k4] 29));go_enter func55,ntmps55
 go_wp2_with (go_at_call 104;refine (aBb _ p _ g _ c _ (HPV.out _ (aA0 HW)) (HGV.out _ (aA0 HW)) (HCV.out _ (aA0 HW)) hL hG hC).mono ?_;rintro e w' ⟨rfl,hb⟩;replace HW:=HW.trans hb;clear hb)
 go_ret;exact ⟨aA2 (by rw [Bool.eq_iff_iff];simp),aA0 HW⟩
def aIz (g:Graph) (v:Nat) (port:Int):Link:=(g.ports.getD v []).getD port.toNat default
def aEg (g:Graph) (op:Int) (v:Nat) (port:Int):Int :=
 if op=6 then g.ids.length else if op=7 then aEo g.ids else if op=8 then g.ids.getD v 0 else if op=9 then (g.ports.getD v []).length
 else if op=10 then aBz (decide (v=0)) else if op=11 then port
 else if op=13 then g.ids.getD (aIz g v port).to.toNat 0
 else if op=14 then (g.ports.getD (aIz g v port).to.toNat []).length
 else if op=15 then aBz (decide ((aIz g v port).to=0))
 else if op=16 then (aIz g v port).weight
 else aEw (g.ports.getD (aIz g v port).to.toNat []) v
def aIo (g:Graph) (c:aA8) (v:Nat) (port:Int) (t:Term):Int :=
 if t.op=1 then t.arg else if t.op=2 then 1 else if t.op=3 then 0 else if t.op=4 then -1
 else if t.op=5 then (c.getD v []).getD t.arg.toNat 0
 else if t.op=12 then (c.getD (aIz g v port).to.toNat []).getD t.arg.toNat 0
 else aEg g t.op v port
def aAw (g:Graph) (c:aA8) (v:Nat):Int->Ex->Int
 | port,.leaf t=>aIo g c v port t
 | port,.un t a=>if aAc t.op then aLu t.op ((List.range (g.ports.getD v []).length).map fun (k:Nat)=>aAw g c v (k:Int) a) else aKb t.op (aAw g c v port a)
 | port,.bin t a b=>aF4 t.op (aAw g c v port a) (aAw g c v port b)
 | port,.tri _ a b d=>if aAw g c v port a≠0 then aAw g c v port b else aAw g c v port d
def aBd:Bool->Ex->Prop
 | b,.leaf t=>aDs t.op=true->b=true
 | b,.un t a=>aBd (b||aAc t.op) a
 | b,.bin _ x y=>aBd b x/\aBd b y
 | b,.tri _ x y z=>aBd b x/\aBd b y/\aBd b z
theorem bK4 {b:Bool} {k:Int} (h:ifK b k≠0):b=true/\k≠0:=by
 unfold ifK at h;cases b
 .exact absurd rfl h
 .exact ⟨rfl,h⟩
theorem bE8 {op a:Int} (h:aIs op a≠0):a≠0:=by
 unfold aIs at h;rintro rfl
 repeat' split at h
 all_goals exact h rfl
theorem bCz {op a b:Int} (h:aKm op a b≠0):a≠0/\b≠0:=by
 unfold aKm at h
 repeat' split at h
 all_goals
  have:=(bK4 h).1;simp at this
  omega
theorem aLi {kinds:List Int} {x:Ex}:∀ {b:Bool},aBc kinds b x≠0->aBd b x:=by
 induction x with
 | leaf t =>
  intro b h hn
  simp only [aBc] at h
  cases b
  .rw [hn] at h;exact absurd rfl h
  .rfl
 | un t a ih=>intro b h;exact ih (bE8 h)
 | bin t x y ihx ihy=>intro b h;obtain ⟨h1,h2⟩:=bCz h;exact ⟨ihx h1,ihy h2⟩
 | tri t x y z ihx ihy ihz =>
  intro b h
  obtain ⟨h1,h2⟩:=bK4 h;simp at h1
  refine ⟨ihx (by omega),ihy h2,ihz ?_⟩
  rw [<- h1.2];exact h2
theorem aV2 (l:List Int):∀ i:Int,aFk l i = -1∨(i<=aFk l i/\aFk l i<i+l.length):=by
 induction l with
 | nil=>intro i;left;rfl
 | cons a l ih =>
  intro i
  simp only [aFk]
  split
  .right;simp;omega
  .rcases ih (i+1) with h | h
   .left;exact h
   .right;simp;omega
theorem aV6 (l:List Int):∀ z:Int,Num z->(∀ x∈l,Num x)->Num (l.foldl min z):=by
 induction l with
 | nil=>intro z hz _;exact hz
 | cons a l ih =>
  intro z hz h
  refine ih _ ?_ (fun x hx=>h x (by simp [hx]))
  have:=h a (by simp)
  unfold Num at *;omega
theorem aZ4 (l:List Int):∀ a b:Int,Num a->Num b->(∀ x∈l,Num x)->Num (aMx l a b).1/\Num (aMx l a b).2:=by
 induction l with
 | nil=>intro a b ha hb _;exact ⟨ha,hb⟩
 | cons x l ih =>
  intro a b ha hb h
  have hx:=h x (by simp)
  have hr:∀ y∈l,Num y:=fun y hy=>h y (by simp [hy])
  simp only [aMx]
  split
  .exact ih _ _ hx ha hr
  .refine ih _ _ ha ?_ hr
   unfold Num at *;omega
theorem bFs {op:Int} {l:List Int} (hn:∀ x∈l,Num x) (hl:l.length<=1000):Num (aLu op l):=by
 unfold aLu;split
 .exact aGf _
 split
 .exact aGf _
 split
 .have:=bFi l;unfold Num;omega
 split
 .have:=aV2 l 0;unfold Num;omega
 split
 .exact aV6 l _ (by unfold Num;omega) hn
 split
 .exact (aZ4 l _ _ (by unfold Num;omega) (by unfold Num;omega) hn).1
 split
 .exact bC9 _
 split
 .have h1:=bJa l (aO8 l 0) 0 (Nat.le_refl _)
  have h2:=aUx l 0;unfold bJ9 Num;omega
 split
 .exact (aZ4 l _ _ (by unfold Num;omega) (by unfold Num;omega) hn).2
 .cases l with
  | nil=>unfold Num;simp
  | cons a l=>exact hn a (by simp)
theorem bEh {op a:Int} (h:Num a):Num (aKb op a):=by
 unfold aKb;split
 .unfold Num at *;omega
 .exact aGf _
theorem aZn {op a b:Int}:Num (aF4 op a b):=bC9 _
structure SOK (p:Prg) (g:Graph) (c:aA8) (v:Nat):Prop where
 fits:aCf p g=0
 conf:aJd (aAa p g) c=true
 node:v<g.ports.length
theorem SOK.gok {p:Prg} {g:Graph} {c:aA8} {v:Nat} (h:SOK p g c v):GOK g:=(aAe h.fits).2.1
theorem SOK.len {p:Prg} {g:Graph} {c:aA8} {v:Nat} (h:SOK p g c v):c.length=g.ports.length:=by
 rw [(aCy.1 h.conf).1,aAj,h.gok.ids]
theorem SOK.row {p:Prg} {g:Graph} {c:aA8} {v:Nat} (h:SOK p g c v) {u:Nat} (hu:u<g.ports.length):(c[u]'(by rw [h.len];exact hu)).length=p.vars.length:=by
 have:=(aCy.1 h.conf).2 u (by rw [h.len];exact hu) (by rw [aAj,h.gok.ids];exact hu)
 rw [aDe] at this;have:=(aCn.1 this).1
 rwa [aBu] at this
theorem SOK.val {p:Prg} {g:Graph} {c:aA8} {v:Nat} (h:SOK p g c v) {u i:Nat} (hu:u<g.ports.length) (hi:i<p.vars.length) :
  (aAg p.vars[i] g u).1<=(c[u]'(by rw [h.len];exact hu))[i]'(by rw [h.row hu];exact hi)/\(c[u]'(by rw [h.len];exact hu))[i]'(by rw [h.row hu];exact hi)<=(aAg p.vars[i] g u).2:=by
 have h1:=(aCy.1 h.conf).2 u (by rw [h.len];exact hu) (by rw [aAj,h.gok.ids];exact hu)
 rw [aDe] at h1;have:=(aCn.1 h1).2 i (by rw [h.row hu];exact hi) (by rw [aBu];exact hi)
 rwa [aVv] at this
theorem SOK.small {p:Prg} {g:Graph} {c:aA8} {v:Nat} (h:SOK p g c v) {u i:Nat} (hu:u<g.ports.length) (hi:i<p.vars.length):Num ((c.getD u []).getD i 0):=by
 have h1:=h.val hu hi;have h2:=aI4 (List.all_eq_true.1 (aB6 (aAe h.fits).1).1 _ (List.getElem_mem hi)) h.gok hu;have e1:c.getD u []=c[u]'(by rw [h.len];exact hu):=aA7 (by rw [h.len];exact hu)
 rw [e1,aA7 (by rw [h.row hu];exact hi)]
 unfold Num;omega
theorem aMj {g:Graph} (hg:GOK g) {v k:Nat} (hv:v<g.ports.length) (hk:k<g.ports[v].length) :
  aIz g v (k:Int)=g.ports[v][k]/\∃ t:Nat,g.ports[v][k].to=(t:Int)/\t<g.ports.length/\1<=g.ports[v][k].weight/\g.ports[v][k].weight<=15/\g.ports[v].length<g.ports.length:=by
 have h1:=hg.links v hv;obtain ⟨a1,a2,a3,a4,a5⟩:=aCb.1 ((aC1.1 h1).1 _ (List.getElem_mem hk));obtain ⟨t,ht⟩:=Int.eq_ofNat_of_zero_le a1;refine ⟨?_,t,ht,by omega,a4,a5,aD7 hv h1⟩
 unfold aIz;rw [aA7 hv,Int.toNat_natCast,aA7 hk]
def aIc (g:Graph) (v:Nat) (b:Bool) (port:Int):Prop:=b=true->∃ k:Nat,port=(k:Int)/\k<(g.ports.getD v []).length
theorem bA4 {l:List Int} {k:Nat} {P:Int->Prop} (h0:P 0) (h:∀ x∈l,P x):P (l.getD k 0):=by
 rw [List.getD_eq_getElem?_getD];cases hx:l[k]? with
 | none=>exact h0
 | some x=>exact h x (List.mem_of_getElem? hx)
theorem bIv {g:Graph} (hg:GOK g) {op:Int} {v:Nat} {port:Int} {b:Bool} (hv:v<g.ports.length) (hop:6<=op/\op<=17/\op≠12) (hb:aDs op=true->b=true) (hp:aIc g v b port):Num (aEg g op v port):=by
 have hle:=hg.le;have hids:=hg.ids;obtain ⟨g1,g2⟩:=aLf hg;have hid:∀ k,Num (g.ids.getD k 0):=fun k=>bA4 (P:=Num) (by unfold Num;omega) (fun x hx=>by have:=hg.idr x hx;unfold Num;omega)
 have hlen:∀ u,(g.ports.getD u []).length<=24:=fun u=>by
  rcases Nat.lt_or_ge u g.ports.length with h | h
  .rw [aA7 h];have:=aD7 h (hg.links u h);omega
  .rw [List.getD_eq_getElem?_getD,List.getElem?_eq_none h];simp
 by_cases hn:11<=op
 .have hnear:aDs op=true:=by unfold aDs;simp;omega
  obtain ⟨k,rfl,hk⟩:=hp (hb hnear);rw [aA7 hv] at hk;obtain ⟨e,t,ht,htl,w1,w2,hl⟩:=aMj hg hv hk;have hr:=aRw (g.ports.getD t []) (v:Int);have:=hlen t;have hlv:=hlen v;unfold aEg;rw [e,ht,Int.toNat_natCast];generalize g.ports[v][k].weight=wt at *;generalize (g.ports.getD t []).length=len at *;generalize aEw (g.ports.getD t []) (v:Int)=pf at *;generalize (g.ports.getD v []).length=lv at *;generalize aEo g.ids=gm at *;have n0:Num (g.ids.length:Int):=by unfold Num;omega
  have n1:Num gm:=by unfold Num;omega
  have n2:Num (lv:Int):=by unfold Num;omega
  have n3:Num (k:Int):=by unfold Num;omega
  have n4:Num (len:Int):=by unfold Num;omega
  have n5:Num wt:=by unfold Num;omega
  have n6:Num pf:=by unfold Num;omega
  by_cases c1:op=6
  .rw [if_pos c1];exact n0
  rw [if_neg c1]
  by_cases c2:op=7
  .rw [if_pos c2];exact n1
  rw [if_neg c2]
  by_cases c3:op=8
  .rw [if_pos c3];exact hid _
  rw [if_neg c3]
  by_cases c4:op=9
  .rw [if_pos c4];exact n2
  rw [if_neg c4]
  by_cases c5:op=10
  .rw [if_pos c5];exact aGf _
  rw [if_neg c5]
  by_cases c6:op=11
  .rw [if_pos c6];exact n3
  rw [if_neg c6]
  by_cases c7:op=13
  .rw [if_pos c7];exact hid _
  rw [if_neg c7]
  by_cases c8:op=14
  .rw [if_pos c8];exact n4
  rw [if_neg c8]
  by_cases c9:op=15
  .rw [if_pos c9];exact aGf _
  rw [if_neg c9]
  by_cases c10:op=16
  .rw [if_pos c10];exact n5
  rw [if_neg c10];exact n6
 .unfold aEg
  have hlv:=hlen v
  by_cases c1:op=6
  .rw [if_pos c1];unfold Num;omega
  rw [if_neg c1]
  by_cases c2:op=7
  .rw [if_pos c2];unfold Num;omega
  rw [if_neg c2]
  by_cases c3:op=8
  .rw [if_pos c3];exact hid _
  rw [if_neg c3]
  by_cases c4:op=9
  .rw [if_pos c4];unfold Num;omega
  rw [if_neg c4]
  by_cases c5:op=10
  .rw [if_pos c5];exact aGf _
  exfalso;omega
theorem bJ4 {p:Prg} {g:Graph} {c:aA8} {v:Nat} (h:SOK p g c v) {t:Term} {port:Int} {b:Bool} (har:aAn t.op=0) (ha:aHz t p.vars.length=true) (hb:aDs t.op=true->b=true) (hp:aIc g v b port):Num (aIo g c v port t):=by
 have hr:=(aBl t.op).1 har;obtain ⟨op,arg⟩:=t;dsimp only at *;unfold aIo;dsimp only
 by_cases h1:op=1
 .rw [if_pos h1]
  subst h1;have hd:decide (0<=arg/\arg<=1073741824)=true:=ha;have:=of_decide_eq_true hd;unfold Num;omega
 rw [if_neg h1];split
 .unfold Num;omega
 split
 .unfold Num;omega
 split
 .unfold Num;omega
 split
 .rename_i h5
  obtain ⟨a1,a2⟩:=aKk ha (.inl h5);obtain ⟨a,rfl⟩:=Int.eq_ofNat_of_zero_le a1;rw [Int.toNat_natCast];exact h.small h.node (by omega)
 split
 .rename_i h12
  obtain ⟨a1,a2⟩:=aKk ha (.inr h12);obtain ⟨a,rfl⟩:=Int.eq_ofNat_of_zero_le a1;obtain ⟨k,rfl,hk⟩:=hp (hb (by unfold aDs;simp;omega))
  rw [aA7 h.node] at hk;obtain ⟨e,t,ht,htl,_⟩:=aMj h.gok h.node hk;rw [e,ht,Int.toNat_natCast,Int.toNat_natCast];exact h.small htl (by omega)
 .rename_i h2 h3 h4 h5 h12
  exact bIv h.gok h.node (by omega) hb hp
theorem bGw {g:Graph} (hg:GOK g) {v:Nat} (hv:v<g.ports.length):(g.ports.getD v []).length<24:=by
 rw [aA7 hv];have:=aD7 hv (hg.links v hv);have:=hg.le;omega
theorem aI6 {p:Prg} {g:Graph} {c:aA8} {v:Nat} (h:SOK p g c v) {x:Ex} (hx:x.ok) (ha:∀ t∈x.terms,aHz t p.vars.length=true):∀ {b:Bool} {port:Int},aBd b x->aIc g v b port->Num (aAw g c v port x):=by
 induction x with
 | leaf t=>intro b port hb hp;exact bJ4 h hx (ha t (by simp [Ex.terms])) hb hp
 | un t a ih =>
  intro b port hb hp
  have ha':∀ s∈a.terms,aHz s p.vars.length=true:=fun s hs=>ha s (by simp [Ex.terms,hs])
  simp only [aAw]
  split
  .rename_i hag
   refine bFs (fun y hy=>?_) (by rw [List.length_map,List.length_range];have:=bGw h.gok h.node;omega)
   obtain ⟨k,hk,rfl⟩:=List.mem_map.1 hy;rw [List.mem_range] at hk;refine ih hx.2 ha' (b:=true) ?_ (fun _=>⟨k,rfl,hk⟩)
   have hb':aBd (b||aAc t.op) a:=hb
   rwa [hag,Bool.or_true] at hb'
  .rename_i hag
   refine bEh (ih hx.2 ha' (b:=b) ?_ hp)
   have hb':aBd (b||aAc t.op) a:=hb
   rwa [show aAc t.op=false by simpa using hag,Bool.or_false] at hb'
 | bin t x y ihx ihy=>intro b port hb hp;exact aZn
 | tri t x y z ihx ihy ihz =>
  intro b port hb hp
  simp only [aAw]
  obtain ⟨_,_,o2,o3⟩:=hx;split
  .exact ihy o2 (fun s hs=>ha s (by simp [Ex.terms,hs])) hb.2.1 hp
  .exact ihz o3 (fun s hs=>ha s (by simp [Ex.terms,hs])) hb.2.2 hp
theorem bFm {op:Int} (h:6<=op/\op<=17/\op≠12):(op=6∨op=7∨op=8∨op=9∨op=10∨op=11)∨(op=13∨op=14∨op=15∨op=16∨op=17):=by omega
theorem bAv (v2:Value) (g:Graph) (op:Int) (v:Nat) (port:Int) (b:Bool) (w:World) (h2:aAl w v2 g) (hg:GOK g) (hv:v<g.ports.length) (hop:6<=op/\op<=17/\op≠12) (hb:aDs op=true->b=true) (hp:aIc g v b port) :
  Calls prog 218 #[v2,.int .i64 op,.int .i64 v,.int .i64 port] w fun e w'=>e = .returned (.int .i64 (aEg g op v port))/\Bel w w':=by
 have HGV:=aA1 (fun w' (k:Bel w w')=>h2.keep k);obtain ⟨A,k,A2,k2,rfl,hI,_,_,hP,_,_⟩:=h2;have hids:=hg.ids;have hle:=hg.le;have hvi:v<g.ids.length:=by omega
 have hl1000:g.ids.length<=1000:=by omega
 obtain ⟨b1,o1,rfl,hb1,hid⟩:=hI.at_ v hvi;obtain ⟨b2,o2,R,rc,rfl,hb2,hrow,hL,_,_⟩:=hP.at_ v hv;have HB:=(Bel.refl w).alloc (.cells #[.slice (some ⟨b1,o1,none⟩) g.ids.length k,.slice (some ⟨b2,o2,none⟩) g.ports.length k2] 29);have hdv:decide (v<g.ports.length)=true:=by simpa using hv
 have hdi:decide (v<g.ids.length)=true:=by simpa using hvi
 have HID:=aA1 hids;clear hids
 rcases bFm hop with (rfl | rfl | rfl | rfl | rfl | rfl) | hnear
 .have HF:Hid (aEg g 6 v port=g.ports.length):=by show aEg g 6 v port=_;unfold aEg;rw [if_pos rfl,HID.out]
  clear hI hP hb hp hop;go_enter func218,ntmps218;go_wp2;go_ret;exact ⟨aA4 HF.out.symm,HB⟩
 .clear hI hP hb hp hop
  have HF:Hid (aEg g 7 v port=aEo g.ids):=rfl;go_enter func218,ntmps218
  go_wp2_with (go_at_call 186;refine (aP7 _ g _ (HGV.out _ HB) hl1000).mono ?_;rintro e w' ⟨rfl,hbb⟩;replace HB:=HB.trans hbb;clear hbb)
  go_ret;exact ⟨aA4 HF.out.symm,HB⟩
 .have HF:Hid (aEg g 8 v port=g.ids[v]):=aA7 hvi
  clear hI hP hb hp hop;go_enter func218,ntmps218;go_wp2;go_ret;exact ⟨aA4 HF.out.symm,HB⟩
 .have HF:Hid (aEg g 9 v port=(g.ports[v].length:Int)):=by show aEg g 9 v port=_;rw [<- aA7 (d:=[]) hv];rfl
  clear hI hP hb hp hop;go_enter func218,ntmps218;go_wp2;go_ret;exact ⟨aA4 HF.out.symm,HB⟩
 .have HF:Hid (aEg g 10 v port=aBz (decide (v=0))):=rfl
  obtain ⟨z,hz⟩:∃ z,decide (v=0)=z:=⟨_,rfl⟩;rw [hz] at HF;have hz1:((v:Int)==0)=z:=by rw [<- hz,Bool.eq_iff_iff];simp
  have hz2:(v==0)=z:=by rw [<- hz,Bool.eq_iff_iff];simp
  clear hI hP hb hp hop hz;go_enter func218,ntmps218
  go_wp2_with (go_at_call 219;refine (aD3 _ _).mono ?_;rintro e w' ⟨rfl,rfl⟩)
  go_ret;exact ⟨aA4 HF.out.symm,HB⟩
 .have HF:Hid (aEg g 11 v port=port):=rfl
  clear hI hP hb hp hop;go_enter func218,ntmps218;go_wp2;go_ret;exact ⟨aA4 HF.out.symm,HB⟩
 .obtain ⟨q,rfl,hq⟩:=hp (hb (by unfold aDs;simp;omega))
  rw [aA7 hv] at hq;obtain ⟨e,t,ht,htl,_⟩:=aMj hg hv hq;obtain ⟨b3,o3,rfl,hb3,hto,hwe⟩:=hL.at_ q hq;have hti:t<g.ids.length:=by rw [HID.out];exact htl
  obtain ⟨b4,o4,e4,_,hid4⟩:=hI.at_ t hti;obtain ⟨rfl,rfl⟩:b1=b4/\o1=o4:=by simpa using e4
  obtain ⟨b5,o5,R5,rc5,e5,_,hrow5,_,_,_⟩:=hP.at_ t htl;obtain ⟨rfl,rfl⟩:b2=b5/\o2=o5:=by simpa using e5
  rw [ht] at hto;have hdt:decide (t<g.ports.length)=true:=by simpa using htl
  have hdti:decide (t<g.ids.length)=true:=by simpa using hti
  have hdq:decide (q<g.ports[v].length)=true:=by simpa using hq
  have HE:=aA1 e;have HT:=aA1 ht;clear hI hP hb hp hop e4 e5 e ht hL
  rcases hnear with rfl | rfl | rfl | rfl | rfl
  .have HF:Hid (aEg g 13 v (q:Int)=g.ids[t]):=by show g.ids.getD (aIz g v q).to.toNat 0=_;rw [HE.out,HT.out,Int.toNat_natCast,aA7 hti]
   go_enter func218,ntmps218;go_wp2;go_ret;exact ⟨aA4 HF.out.symm,HB⟩
  .have HF:Hid (aEg g 14 v (q:Int)=(g.ports[t].length:Int)):=by show ((g.ports.getD (aIz g v q).to.toNat []).length:Int)=_;rw [HE.out,HT.out,Int.toNat_natCast,aA7 htl]
   go_enter func218,ntmps218;go_wp2;go_ret;exact ⟨aA4 HF.out.symm,HB⟩
  .have HF:Hid (aEg g 15 v (q:Int)=aBz (decide ((t:Int)=0))):=by show aBz (decide ((aIz g v q).to=0))=_;rw [HE.out,HT.out]
   obtain ⟨z,hz⟩:∃ z,decide ((t:Int)=0)=z:=⟨_,rfl⟩;rw [hz] at HF;have hz1:((t:Int)==0)=z:=by rw [<- hz,Bool.eq_iff_iff];simp
   have hz2:(t==0)=z:=by rw [<- hz,Bool.eq_iff_iff];simp
   clear hz;go_enter func218,ntmps218
   go_wp2_with (go_at_call 219;refine (aD3 _ _).mono ?_;rintro e w' ⟨rfl,rfl⟩)
   go_ret;exact ⟨aA4 HF.out.symm,HB⟩
  .have HF:Hid (aEg g 16 v (q:Int)=g.ports[v][q].weight):=by show (aIz g v q).weight=_;rw [HE.out]
   go_enter func218,ntmps218;go_wp2;go_ret;exact ⟨aA4 HF.out.symm,HB⟩
  .have HF:Hid (aEg g 17 v (q:Int)=aEw g.ports[t] v):=by show aEw (g.ports.getD (aIz g v q).to.toNat []) v=_;rw [HE.out,HT.out,Int.toNat_natCast,aA7 htl]
   go_enter func218,ntmps218
   go_wp2_with (go_at_call 176;refine (aU0 _ g t (v:Int) _ (HGV.out _ HB) htl).mono ?_;rintro e w' ⟨rfl,hbb⟩;replace HB:=HB.trans hbb;clear hbb)
   go_ret;exact ⟨aA4 HF.out.symm,HB⟩
theorem bG4 {op:Int} (h:1<=op/\op<=17):(op=1∨op=2∨op=3∨op=4)∨op=5∨op=12∨(6<=op/\op<=17/\op≠12):=by omega
theorem aYk (v2:Value) (p:Prg) (g:Graph) (v3:Value) (c:aA8) (v:Nat) (port:Int) (t:Term) (b:Bool) (w:World) (h2:aAl w v2 g) (h3:aDf w v3 c) (hs:SOK p g c v) (har:aAn t.op=0) (ha:aHz t p.vars.length=true) (hb:aDs t.op=true->b=true) (hp:aIc g v b port) :
  Calls prog 162 #[v2,v3,.int .i64 v,.int .i64 port,.agg #[.int .i64 t.op,.int .i64 t.arg]] w fun e w'=>e = .returned (.int .i64 (aIo g c v port t))/\Bel w w':=by
 have hr:=(aBl t.op).1 har;have HGV:=aA1 (fun w' (k:Bel w w')=>h2.keep k);obtain ⟨A,k,A2,k2,rfl,hI,_,_,hP,_,_⟩:=h2;obtain ⟨A3,k3,rfl,hC,_,_⟩:=h3;obtain ⟨op,arg⟩:=t;dsimp only at *;have hv:=hs.node;have hdv:decide (v<c.length)=true:=by simp [hs.len,hv]
 have HB:=((Bel.refl w).alloc (.cells #[.slice A g.ids.length k,.slice A2 g.ports.length k2] 29)).alloc (.cells #[.int .i64 op,.int .i64 arg] 115)
 rcases bG4 hr with hq | rfl | rfl | hq
 .clear hI hP hC hb hp har
  have HF:Hid (aIo g c v port ⟨op,arg⟩=if op=1 then arg else if op=2 then 1 else if op=3 then 0 else -1):=by
   show aIo g c v port ⟨op,arg⟩=_
   unfold aIo
   rcases hq with rfl | rfl | rfl | rfl <;> simp
  rcases hq with rfl | rfl | rfl | rfl
  all_goals
   go_enter func162,ntmps162;go_wp2;go_ret;exact ⟨aA4 HF.out.symm,HB⟩
 .obtain ⟨a1,a2⟩:=aKk ha (.inl rfl)
  obtain ⟨a,rfl⟩:=Int.eq_ofNat_of_zero_le a1;have hvc:v<c.length:=by rw [hs.len];exact hv
  have hac:a<c[v].length:=by rw [hs.row hv];omega
  obtain ⟨b1,o1,R,rc,rfl,hb1,hrow,hR,_,_⟩:=hC.at_ v hvc;obtain ⟨b2,o2,rfl,hb2,hval⟩:=hR.at_ a hac
  have HF:Hid (aIo g c v port ⟨5,(a:Int)⟩=c[v][a]):=by
   show (c.getD v []).getD (a:Int).toNat 0=_
   rw [Int.toNat_natCast,aA7 hvc,aA7 hac]
  have hda:decide (a<c[v].length)=true:=by simpa using hac
  clear hI hP hC hb hp har hR ha;go_enter func162,ntmps162;go_wp2
  go_quiet (fail)
  go_wp2;go_ret;exact ⟨aA4 HF.out.symm,HB.drewN _⟩
 .obtain ⟨a1,a2⟩:=aKk ha (.inr rfl)
  obtain ⟨a,rfl⟩:=Int.eq_ofNat_of_zero_le a1;obtain ⟨q,rfl,hq⟩:=hp (hb (by unfold aDs;simp))
  rw [aA7 hv] at hq;obtain ⟨e,t,ht,htl,_⟩:=aMj hs.gok hv hq;obtain ⟨b3,o3,R3,rc3,rfl,hb3,hrow3,hL3,_,_⟩:=hP.at_ v hv;obtain ⟨b4,o4,rfl,hb4,hto,_⟩:=hL3.at_ q hq;rw [ht] at hto;have htc:t<c.length:=by rw [hs.len];exact htl
  have hac:a<c[t].length:=by rw [hs.row htl];omega
  obtain ⟨b1,o1,R,rc,rfl,hb1,hrow,hR,_,_⟩:=hC.at_ t htc;obtain ⟨b2,o2,rfl,hb2,hval⟩:=hR.at_ a hac
  have HF:Hid (aIo g c v (q:Int) ⟨12,(a:Int)⟩=c[t][a]):=by
   show (c.getD (aIz g v q).to.toNat []).getD (a:Int).toNat 0=_
   rw [e,ht,Int.toNat_natCast,Int.toNat_natCast,aA7 htc,aA7 hac]
  have hda:decide (a<c[t].length)=true:=by simpa using hac
  have hdt:decide (t<c.length)=true:=by simpa using htc
  have hdp:decide (v<g.ports.length)=true:=by simpa using hv
  have hdq:decide (q<g.ports[v].length)=true:=by simpa using hq
  clear hI hP hC hb hp har hR ha hL3 e ht;go_enter func162,ntmps162;go_wp2
  go_quiet (fail)
  go_wp2;go_ret;exact ⟨aA4 HF.out.symm,HB.drewN _⟩
 .have HF:Hid (aIo g c v port ⟨op,arg⟩=aEg g op v port):=by
   show aIo g c v port ⟨op,arg⟩=_
   unfold aIo;dsimp only;rw [if_neg (by omega),if_neg (by omega),if_neg (by omega),if_neg (by omega),if_neg (by omega),if_neg (by omega)]
  have e1:(op==1)=false:=by simp;omega
  have e2:(op==2)=false:=by simp;omega
  have e3:(op==3)=false:=by simp;omega
  have e4:(op==4)=false:=by simp;omega
  have e5:(op==5)=false:=by simp;omega
  have e12:(op==12)=false:=by simp;omega
  have HG:=aA1 hs.gok;have HQ:=aA1 hq;have HBB:=aA1 hb;have HPP:=aA1 hp;clear hI hP hC hb hp har ha hq;go_enter func162,ntmps162
  go_wp2_with (go_at_call 218;refine (bAv _ g op v port b _ (HGV.out _ HB) HG.out hv HQ.out HBB.out HPP.out).mono ?_;rintro e w' ⟨rfl,hbb⟩;replace HB:=HB.trans hbb;clear hbb)
  go_ret;exact ⟨aA4 HF.out.symm,HB⟩
theorem aHx {es:List Term} {k:Nat} {x:Ex} (h:x.At es k):∀ t∈x.terms,t∈es:=by
 obtain ⟨_,r,hr⟩:=h;intro t ht
 have:t∈es.drop k:=by rw [hr];exact List.mem_append_left _ ht
 exact List.mem_of_mem_drop this
def AtOk (p:Prg) (g:Graph) (c:aA8) (v:Nat) (x:Ex):Prop :=
 ∀ (b:Bool) (port:Int) (gv cv:Value) (A:Option Addr) (ce:Nat) (es:List Term) (k:Nat) (w:World),aAl w gv g->aDf w cv c->aAr w A es.length es->x.At es k->(∀ t∈es,aHz t p.vars.length=true)->es.length<=1000->aBd b x->aIc g v b port ->
  Calls prog 111 #[gv,cv,.int .i64 v,.int .i64 port,.slice A es.length ce,.int .i64 k] w fun e w'=>e = .returned (.int .i64 (aAw g c v port x))/\Bel w w'
theorem aWi (p:Prg) (g:Graph) (c:aA8) (v:Nat) (hs:SOK p g c v) (x:Ex):AtOk p g c v x:=by
 induction x with
 | leaf t =>
  intro b port gv cv A ce es k w hgv hcv hT hat harg hlen hbo hpo
  have hlt:=At.lt hat;obtain ⟨hh,har⟩:=At.leaf hat;obtain ⟨b1,o1,rfl,hb1,c1,c2⟩:=hT.at_ k hlt;have hhe:es[k]=t:=by rw [List.getElem?_eq_getElem hlt] at hh;simpa using hh
  rw [hhe] at c1 c2;have HARG:=aA1 (show aHz t p.vars.length=true by rw [<- hhe];exact harg _ (List.getElem_mem hlt))
  have HGV:=aA1 (fun w' (k:Bel w w')=>hgv.keep k);have HCV:=aA1 (fun w' (k:Bel w w')=>hcv.keep k);obtain ⟨A2,k2,A3,k3,rfl,_,_,_,_,_,_⟩:=hgv;obtain ⟨A4,k4,rfl,_,_,_⟩:=hcv;have HAR:=aA1 har;have HBO:=aA1 (show aDs t.op=true->b=true from hbo)
  have HPO:=aA1 hpo;have HS:=aA1 hs;have HB:=Bel.refl (w.alloc (.cells #[.slice A2 g.ids.length k2,.slice A3 g.ports.length k3] 29));have hcell:=aA1 (fun w' (kk:Bel (w.alloc (.cells #[.slice A2 g.ids.length k2,.slice A3 g.ports.length k3] 29)) w')=>And.intro (aA9 kk 0 (v := .slice A2 g.ids.length k2) rfl) (And.intro (aA9 kk 1 (v := .slice A3 g.ports.length k3) rfl) (And.intro (((aA3 kk).cell hb1).trans c1) (And.intro (((aA3 kk).cell hb1).trans c2) (aAz kk)))));have hdk:decide (k<es.length)=true:=by simpa using hlt
  have hk0:(0:Int)<=(k:Int):=by omega
  have hk1:(k:Int)<(es.length:Int):=by omega
  clear hh hhe harg hT har hat hbo hpo;go_enter func111,ntmps111
  go_wp2_with (go_at_call 161;refine (aB2 _ _).mono ?_;rintro e w' ⟨rfl,rfl⟩;rw [HAR.out])
  replace HB:=HB.drew
  go_region_held3 (fun w'=>w'.cell? ⟨w.heap.size,0,none⟩=some (.slice A2 g.ids.length k2)/\w'.cell? ⟨w.heap.size,1,none⟩=some (.slice A3 g.ports.length k3)/\w'.cell? ⟨b1,o1+k*2,none⟩=some (.int .i64 t.op)/\w'.cell? ⟨b1,o1+k*2+1,none⟩=some (.int .i64 t.arg)/\w.heap.size<w'.heap.size) (exact hcell.out _ HB) (first | (go_simp;go_at_call 162;refine (aYk _ p g _ c v port t b _ (HGV.out _ (aA3 HB)) (HCV.out _ (aA3 HB)) HS.out HAR.out HARG.out HBO.out HPO.out).mono ?_;rintro e w' ⟨rfl,hbb⟩;replace HB:=HB.trans hbb;clear hbb))
  go_wp2_with fail
  go_ret;exact ⟨rfl,aA3 HB⟩
 | un t a ih =>
  intro b port gv cv A ce es k w hgv hcv hT hat harg hlen hbo hpo
  have hlt:=At.lt hat;obtain ⟨hh,har,ha⟩:=At.un hat;have hbd:=At.bound ha;obtain ⟨b1,o1,rfl,hb1,c1,c2⟩:=hT.at_ k hlt;have hhe:es[k]=t:=by rw [List.getElem?_eq_getElem hlt] at hh;simpa using hh
  rw [hhe] at c1 c2;have HGV:=aA1 (fun w' (k:Bel w w')=>hgv.keep k);have HCV:=aA1 (fun w' (k:Bel w w')=>hcv.keep k);have HT:=aA1 (fun w' (k:Bel w w')=>aAr.keep hT k);obtain ⟨A2,k2,A3,k3,rfl,_,_,_,hP,_,_⟩:=hgv;obtain ⟨A4,k4,rfl,_,_,_⟩:=hcv;have HP:=aA1 (fun w' (k:Bel w w')=>aH0.keep hP k);have HAR:=aA1 har;have HARG:=aA1 harg;have HIH:=aA1 ih;have HATA:=aA1 ha;have hv:=hs.node;have hop:=(aBl t.op).2.1 har;have HB:=Bel.refl (w.alloc (.cells #[.slice A2 g.ids.length k2,.slice A3 g.ports.length k3] 29));have HNA:=aA1 (fun (b':Bool) (q:Int) (h1:aBd b' a) (h2:aIc g v b' q)=>aI6 hs ha.1 (fun t ht=>harg t (aHx ha t ht)) h1 h2);cases hag:aAc t.op with
  | true =>
   have HBO:Hid (aBd true a):=by
    have hb':aBd (b||aAc t.op) a:=hbo;rw [hag,Bool.or_true] at hb';exact hb'
   have HE:Hid (aAw g c v port (.un t a)=aLu t.op ((List.range g.ports[v].length).map fun (q:Nat)=>aAw g c v (q:Int) a)):=by
    show aAw g c v port (.un t a)=_
    simp only [aAw,hag,if_true]
    rw [aA7 hv]
   have hrl:g.ports[v].length<=24:=by have:=aD7 hv (hs.gok.links v hv);have:=hs.gok.le;omega
   obtain ⟨hop1,hop2⟩:20<=t.op/\t.op<=29:=by unfold aAc at hag;exact of_decide_eq_true hag
   have HAG:=aA1 hag;obtain ⟨i0,hi0,hz0,hz1,hz2⟩:=info_parts aFm;have HPK:Hid (∀ q:Nat,q<g.ports[v].length->aIc g v true (q:Int)):=fun q hq _=>⟨q,rfl,by rw [aA7 hv];exact hq⟩
   clear hh hhe harg hT har hat hbo hpo hP ih ha hag;go_enter func111,ntmps111
   go_wp2_with (first
    | (go_at_call 161;refine (aB2 _ _).mono ?_;rintro e w' ⟨rfl,rfl⟩;rw [HAR.out])
    | (go_at_call 163;refine (aF3 _ _).mono ?_;rintro e w' ⟨rfl,rfl⟩;rw [HAG.out]))
   go_loopg [14,15] g.ports[v].length (fun m s z wr=>∃ (j:Nat) (R:Option Addr) (rc:Nat),j<=g.ports[v].length/\m=g.ports[v].length-j/\z = .int .i64 j/\s = .slice R j rc/\Hid (wr.ownsRow (w.heap.size+1) 3 1 (.slice R j rc) j (((List.range j).map fun (q:Nat)=>aAw g c v (q:Int) a).map (Value.int .i64)))/\Bel (w.alloc (.cells #[.slice A2 g.ids.length k2,.slice A3 g.ports.length k3] 29)) wr)
   case atStart=>exact ⟨0,none,0,by omega,rfl,rfl,rfl,World.ownsRow_nil _ _ _ _,HB⟩
   case round =>
    clear HB;obtain ⟨j,R,rc,hj,rfl,rfl,rfl,HO,HB⟩:=hrel;have q0:=aA9 HB 0 rfl;have q1:=aA9 HB 1 rfl;have q2:=aAz HB;obtain ⟨b2,o2,R2,rc2,rfl,hb2,hrow,_,_,_⟩:=(HP.out _ (aA3 HB)).at_ v hv;have hdv:decide (v<g.ports.length)=true:=by simpa using hv
    by_cases hlt2:j<g.ports[v].length
    .have hd0:decide (j<g.ports[v].length)=true:=by simpa using hlt2
     have HST:Hid (((List.range (j+1)).map fun (q:Nat)=>aAw g c v (q:Int) a).map (Value.int .i64)=((List.range j).map fun (q:Nat)=>aAw g c v (q:Int) a).map (Value.int .i64)++[.int .i64 (aAw g c v (j:Int) a)]):=by
      show ((List.range (j+1)).map fun (q:Nat)=>aAw g c v (q:Int) a).map (Value.int .i64)=_
      rw [List.range_succ,List.map_append,List.map_append];rfl
     go_wp2_with fail
     refine (HIH.out true (j:Int) _ _ _ _ es (k+1) _ (HGV.out _ (aA3 HB)) (HCV.out _ (aA3 HB)) (HT.out _ (aA3 HB)) HATA.out HARG.out hlen HBO.out (HPK.out j hlt2)).mono ?_
     rintro e w4 ⟨rfl,hbb⟩;replace HB:=HB.trans hbb;replace HO:=aA1 (hbb.owns HO.out);clear hbb q0 q1 q2 hb2 hrow;have hsz:=aAz HB
     go_wp2_with (at_builtin;refine aC5 _ rfl (.tmp 52) (.tmp 61) 26 rfl (w.heap.size+1) 3 i0 (.int .i64 0) 1 8 underlying26 hi0 hz0 hz1 hz2 rfl (by decide) R j rc _ (by simp [Act.eval]) (HO.out.alloc _) w4.heap.size #[.int .i64 (aAw g c v (j:Int) a)] 3 (0,0) (by simp [Act.eval]) (aBr _ _) rfl (aMm _ _) (by unfold maxLen;omega) (by omega) (by simp;omega) ?_;intro R2 rc2 w5 hown hgr hat;have HB2:=(HB.alloc _).pushB (HO.out.alloc _) (by simp) hgr;have HO2:=aA1 hown;clear hown hgr hat)
     go_roundg (g.ports[v].length-(j+1))
     case rel =>
      refine ⟨j+1,R2,rc2,by omega,rfl,by go_num,rfl,?_,HB2⟩
      show World.ownsRow _ _ _ _ _ _ _
      rw [HST.out];exact HO2.out
     case measure=>omega
    .obtain rfl:j=g.ports[v].length:=by omega
     have hd0:decide (g.ports[v].length<g.ports[v].length)=false:=by simp
     have HI:=aA1 (aGj HO.out)
     have HNN:Hid (∀ y∈(List.range g.ports[v].length).map fun (q:Nat)=>aAw g c v (q:Int) a,Num y):=by
      intro y hy
      obtain ⟨q,hq,rfl⟩:=List.mem_map.1 hy;exact HNA.out true q HBO.out (HPK.out q (List.mem_range.1 hq))
     go_wp2_with (go_at_call 164;refine (bAw _ _ _ _ t.op _ HI.out (by omega) hop1 hop2 HNN.out).mono ?_;rintro e w' ⟨rfl,rfl⟩)
     go_ret;exact ⟨aA4 HE.out.symm,aA3 HB⟩
  | false =>
   have HBO:Hid (aBd b a):=by
    have hb':aBd (b||aAc t.op) a:=hbo;rw [hag,Bool.or_false] at hb';exact hb'
   have HE:Hid (aAw g c v port (.un t a)=aKb t.op (aAw g c v port a)):=by
    show aAw g c v port (.un t a)=_
    simp only [aAw,hag];rfl
   have HUR:Hid ((aIh t.op (aAw g c v port a)).1=aKb t.op (aAw g c v port a)):=by
    show (aIh t.op (aAw g c v port a)).1=_
    unfold aIh;have hnu:=aRl (HNA.out b port HBO.out hpo);unfold aAc at hag;have:=of_decide_eq_false hag;rw [if_neg (by rw [hnu];simp;omega)]
   have HAG:=aA1 hag;have HPO:=aA1 hpo;clear hh hhe harg hT har hat hbo hpo hP ih ha hag;go_enter func111,ntmps111
   go_wp2_with (first
    | (go_at_call 161;refine (aB2 _ _).mono ?_;rintro e w' ⟨rfl,rfl⟩;rw [HAR.out])
    | (go_at_call 163;refine (aF3 _ _).mono ?_;rintro e w' ⟨rfl,rfl⟩;rw [HAG.out])
    | (go_at_call 111;refine (HIH.out b port _ _ _ _ es (k+1) _ (HGV.out _ (aA3 HB)) (HCV.out _ (aA3 HB)) (HT.out _ (aA3 HB)) HATA.out HARG.out hlen HBO.out HPO.out).mono ?_;rintro e w4 ⟨rfl,hbb⟩;replace HB:=HB.trans hbb;clear hbb)
    | (go_at_call 165;refine (aYs _ _ _).mono ?_;rintro e w' ⟨rfl,rfl⟩;rw [HUR.out]))
   go_ret;exact ⟨aA4 HE.out.symm,aA3 HB⟩
 | bin t a d iha ihd =>
  intro b port gv cv A ce es k w hgv hcv hT hat harg hlen hbo hpo
  have hlt:=At.lt hat;obtain ⟨hh,har,ha,hd1⟩:=At.bin hat;have hbd:=At.bound ha;have hbd2:=At.bound hd1;have hopn:=At.operand1 hat hh (by omega) ha
  obtain ⟨b1,o1,rfl,hb1,c1,c2⟩:=hT.at_ k hlt;have hhe:es[k]=t:=by rw [List.getElem?_eq_getElem hlt] at hh;simpa using hh
  rw [hhe] at c1 c2;have HGV:=aA1 (fun w' (k:Bel w w')=>hgv.keep k);have HCV:=aA1 (fun w' (k:Bel w w')=>hcv.keep k);have HT:=aA1 (fun w' (k:Bel w w')=>aAr.keep hT k);obtain ⟨A2,k2,A3,k3,rfl,_,_,_,_,_,_⟩:=hgv;obtain ⟨A4,k4,rfl,_,_,_⟩:=hcv;have HAR:=aA1 har;have HARG:=aA1 harg;have HPO:=aA1 hpo;have HI1:=aA1 iha;have HI2:=aA1 ihd;have HA1:=aA1 ha;have HA2:=aA1 hd1;have HOP:=aA1 hopn;have HB:=Bel.refl (w.alloc (.cells #[.slice A2 g.ids.length k2,.slice A3 g.ports.length k3] 29));have hcell:=aA1 (fun w' (kk:Bel (w.alloc (.cells #[.slice A2 g.ids.length k2,.slice A3 g.ports.length k3] 29)) w')=>And.intro (aA9 kk 0 (v := .slice A2 g.ids.length k2) rfl) (And.intro (aA9 kk 1 (v := .slice A3 g.ports.length k3) rfl) (aAz kk)));have hw1:IntKind.i64.wrap ((k:Int)+1)=(k:Int)+1:=IntWalk.i64_in _ (by omega)
  have HK1:=aA1 (show (k:Int)+1=((k+1:Nat):Int) by omega)
  have HK2:=aA1 (show (k:Int)+1+(a.len:Int)=((k+1+a.len:Nat):Int) by omega)
  have HBO1:Hid (aBd b a):=hbo.1;have HBO2:Hid (aBd b d):=hbo.2;have hop:=(aBl t.op).2.2.1 har
  have HE:Hid ((aDb t.op (aAw g c v port a) (aAw g c v port d)).1=aAw g c v port (.bin t a d)):=by
   show (aDb t.op (aAw g c v port a) (aAw g c v port d)).1=aF4 t.op (aAw g c v port a) (aAw g c v port d)
   have n1:=aRl (aI6 hs ha.1 (fun t ht=>harg t (aHx ha t ht)) hbo.1 hpo);have n2:=aRl (aI6 hs hd1.1 (fun t ht=>harg t (aHx hd1 t ht)) hbo.2 hpo);unfold aDb;rw [if_neg (by rw [n1,n2];simp;omega)]
  have hpa:=a.pos
  have HC1:=aA1 (fun (i:Int) (w':World) (hi:i=(k:Int)+1) (kk:Bel w w')=>show Calls prog 111 #[.agg #[.slice A2 g.ids.length k2,.slice A3 g.ports.length k3],.slice A4 c.length k4,.int .i64 v,.int .i64 port,.slice (some ⟨b1,o1,none⟩) es.length ce,.int .i64 i] w' (fun e w2=>e = .returned (.int .i64 (aAw g c v port a))/\Bel w' w2) by
   rw [hi];exact HI1.out b port _ _ _ _ es (k+1) _ (HGV.out _ kk) (HCV.out _ kk) (HT.out _ kk) HA1.out HARG.out hlen HBO1.out HPO.out)
  have HC2:=aA1 (fun (i:Int) (w':World) (hi:i=(k:Int)+1+(a.len:Int)) (kk:Bel w w')=>show Calls prog 111 #[.agg #[.slice A2 g.ids.length k2,.slice A3 g.ports.length k3],.slice A4 c.length k4,.int .i64 v,.int .i64 port,.slice (some ⟨b1,o1,none⟩) es.length ce,.int .i64 i] w' (fun e w2=>e = .returned (.int .i64 (aAw g c v port d))/\Bel w' w2) by
   rw [hi,HK2.out];exact HI2.out b port _ _ _ _ es (k+1+a.len) _ (HGV.out _ kk) (HCV.out _ kk) (HT.out _ kk) HA2.out HARG.out hlen HBO2.out HPO.out)
  clear hh hhe harg hT har hat hbo hpo iha ihd ha hd1 hopn;go_enter func111,ntmps111
  go_wp2_with (go_at_call 161;refine (aB2 _ _).mono ?_;rintro e w' ⟨rfl,rfl⟩;rw [HAR.out])
  replace HB:=HB.drew
  go_region_held3 (fun w'=>w'.cell? ⟨w.heap.size,0,none⟩=some (.slice A2 g.ids.length k2)/\w'.cell? ⟨w.heap.size,1,none⟩=some (.slice A3 g.ports.length k3)/\w.heap.size<w'.heap.size) (exact hcell.out _ HB)
   (first
    | (go_simp;go_at_call 167;refine (aC0 _ _ _ es _ _ _ (HT.out _ (aA3 HB)) (by omega)).mono ?_;rintro e w' ⟨rfl,rfl⟩;rw [HOP.out])
    | (go_simp;go_at_call 111;first
      | (refine Calls.mono (HC1.out _ _ ?_ (aA3 HB)) ?_;omega;rintro e w4 ⟨rfl,hbb⟩;replace HB:=HB.trans hbb;clear hbb)
      | (refine Calls.mono (HC2.out _ _ ?_ (aA3 HB)) ?_;omega;rintro e w4 ⟨rfl,hbb⟩;replace HB:=HB.trans hbb;clear hbb))
    | (go_simp;go_at_call 166;refine (aVs _ _ _ _).mono ?_;rintro e w' ⟨rfl,rfl⟩;rw [HE.out]))
  all_goals
   go_wp2_with fail
   go_ret;exact ⟨rfl,aA3 HB⟩
 | tri t a d f iha ihd ihf =>
  intro b port gv cv A ce es k w hgv hcv hT hat harg hlen hbo hpo
  have hlt:=At.lt hat;obtain ⟨hh,har,ha,hd1,hf1⟩:=At.tri hat;have hbd:=At.bound ha;have hbd2:=At.bound hd1;have hbd3:=At.bound hf1;have hopn:=At.operand1 hat hh (by omega) ha
  have hopn2:=At.operand2 hat hh (by omega) ha hd1
  obtain ⟨b1,o1,rfl,hb1,c1,c2⟩:=hT.at_ k hlt;have hhe:es[k]=t:=by rw [List.getElem?_eq_getElem hlt] at hh;simpa using hh
  rw [hhe] at c1 c2;have HGV:=aA1 (fun w' (k:Bel w w')=>hgv.keep k);have HCV:=aA1 (fun w' (k:Bel w w')=>hcv.keep k);have HT:=aA1 (fun w' (k:Bel w w')=>aAr.keep hT k);obtain ⟨A2,k2,A3,k3,rfl,_,_,_,_,_,_⟩:=hgv;obtain ⟨A4,k4,rfl,_,_,_⟩:=hcv;have HAR:=aA1 har;have HARG:=aA1 harg;have HPO:=aA1 hpo;have HI1:=aA1 iha;have HI2:=aA1 ihd;have HA1:=aA1 ha;have HA2:=aA1 hd1;have HI3:=aA1 ihf;have HA3:=aA1 hf1;have HOP2:=aA1 hopn2;have HK3:=aA1 (show (k:Int)+1+(a.len:Int)+(d.len:Int)=((k+1+a.len+d.len:Nat):Int) by omega)
  have HOP:=aA1 hopn;have HB:=Bel.refl (w.alloc (.cells #[.slice A2 g.ids.length k2,.slice A3 g.ports.length k3] 29));have hcell:=aA1 (fun w' (kk:Bel (w.alloc (.cells #[.slice A2 g.ids.length k2,.slice A3 g.ports.length k3] 29)) w')=>And.intro (aA9 kk 0 (v := .slice A2 g.ids.length k2) rfl) (And.intro (aA9 kk 1 (v := .slice A3 g.ports.length k3) rfl) (aAz kk)));have hw1:IntKind.i64.wrap ((k:Int)+1)=(k:Int)+1:=IntWalk.i64_in _ (by omega)
  have HK1:=aA1 (show (k:Int)+1=((k+1:Nat):Int) by omega)
  have HK2:=aA1 (show (k:Int)+1+(a.len:Int)=((k+1+a.len:Nat):Int) by omega)
  have HBO1:Hid (aBd b a):=hbo.1;have HBO2:Hid (aBd b d):=hbo.2.1;have HBO3:Hid (aBd b f):=hbo.2.2;have HE:Hid (aAw g c v port (.tri t a d f)=if aAw g c v port a≠0 then aAw g c v port d else aAw g c v port f):=rfl
  clear hh hhe harg hT har hat hbo hpo iha ihd ihf ha hd1 hf1 hopn hopn2;go_enter func111,ntmps111
  go_wp2_with (go_at_call 161;refine (aB2 _ _).mono ?_;rintro e w' ⟨rfl,rfl⟩;rw [HAR.out])
  refine (HI1.out b port _ _ _ _ es (k+1) _ (HGV.out _ (aA3 HB)) (HCV.out _ (aA3 HB)) (HT.out _ (aA3 HB)) HA1.out HARG.out hlen HBO1.out HPO.out).mono ?_
  rintro e w4 ⟨rfl,hbb⟩;replace HB:=HB.trans hbb;clear hbb;obtain ⟨q0,q1,q2⟩:=hcell.out _ HB
  by_cases hz:aAw g c v port a=0
  .have hzb:(aAw g c v port a != 0)=false:=by simpa using hz
   rw [if_neg (by simpa using hz)] at HE
   have HZ:=aA1 hz;clear hz
   go_wp2_with fail
   replace HB:=HB.drew
   go_region_held3 (fun w'=>w'.cell? ⟨w.heap.size,0,none⟩=some (.slice A2 g.ids.length k2)/\w'.cell? ⟨w.heap.size,1,none⟩=some (.slice A3 g.ports.length k3)/\w.heap.size<w'.heap.size) (exact hcell.out _ HB)
    (first
     | (go_simp;go_at_call 167;refine (aC0 _ _ _ es _ _ _ (HT.out _ (aA3 HB)) (by omega)).mono ?_;rintro e w' ⟨rfl,rfl⟩;rw [HOP2.out])
     | (go_simp;go_at_call 111;refine (HI3.out b port _ _ _ _ es (k+1+a.len+d.len) _ (HGV.out _ (aA3 HB)) (HCV.out _ (aA3 HB)) (HT.out _ (aA3 HB)) HA3.out HARG.out hlen HBO3.out HPO.out).mono ?_;rintro e w5 ⟨rfl,hbb⟩;replace HB:=HB.trans hbb;clear hbb))
   all_goals
    go_wp2_with fail
    go_ret;exact ⟨aA4 HE.out.symm,aA3 HB⟩
  .have hzb:(aAw g c v port a != 0)=true:=by simpa using hz
   rw [if_pos hz] at HE;have HZ:=aA1 hz;clear hz
   go_wp2_with fail
   replace HB:=HB.drew
   go_region_held3 (fun w'=>w'.cell? ⟨w.heap.size,0,none⟩=some (.slice A2 g.ids.length k2)/\w'.cell? ⟨w.heap.size,1,none⟩=some (.slice A3 g.ports.length k3)/\w.heap.size<w'.heap.size) (exact hcell.out _ HB)
    (first
     | (go_simp;go_at_call 167;refine (aC0 _ _ _ es _ _ _ (HT.out _ (aA3 HB)) (by omega)).mono ?_;rintro e w' ⟨rfl,rfl⟩;rw [HOP.out])
     | (go_simp;go_at_call 111;refine (HI2.out b port _ _ _ _ es (k+1+a.len) _ (HGV.out _ (aA3 HB)) (HCV.out _ (aA3 HB)) (HT.out _ (aA3 HB)) HA2.out HARG.out hlen HBO2.out HPO.out).mono ?_;rintro e w5 ⟨rfl,hbb⟩;replace HB:=HB.trans hbb;clear hbb))
   all_goals
    go_wp2_with fail
    go_ret;exact ⟨aA4 HE.out.symm,aA3 HB⟩
end Go.Proofs.YtmifhmdghfbalaaGreatDoor

