/- Merged. -/
import Derived.Test.YtmoebklkkjbigaaGreatDoorZ18
import Derived.Test.YtmoebklkkjbigaaGreatDoorZ19
import Derived.BigQuiet
set_option linter.unusedSimpArgs false
set_option linter.unnecessarySimpa false
set_option linter.unusedVariables false
set_option maxRecDepth 100000
set_option maxHeartbeats 4000000
open Go.Proofs.Tryz

namespace Go.Proofs.YtmoebklkkjbigaaGreatDoor
open Go.RowKit
def aEx (bm:Nat) (AN:Option Addr) (n kn:Nat) (kind:Int) (AT:Option Addr) (kt:Nat) (pv:Value):Array Value :=
 #[.pointer (some ⟨bm,0,none⟩),.slice AN n kn,.int .i64 kind,.slice AT n kt,pv]
def aLw (w:World) (B:Nat) (p:Prg) (g:Graph) (kind:Int):Prop :=
 ∃ bm AN kn AT kt AP kp,Blk w B (aEx bm AN g.ports.length kn kind AT kt (.slice AP g.ports.length kp)) 101 /\
  aEo w bm p g/\aOp w AN g/\aFe w AT g.ports.length (aAb p g)/\aQ5 w AP g.ports.length (aEm (aAb p g))
theorem aLw.keep {w w':World} {B:Nat} {p:Prg} {g:Graph} {kind:Int} (h:aLw w B p g kind) (k:Bel w w'):aLw w' B p g kind:=by
 obtain ⟨bm,AN,kn,AT,kt,AP,kp,h1,h2,h3,h4,h5⟩:=h;exact ⟨bm,AN,kn,AT,kt,AP,kp,h1.keep k,h2.keep k,h3.keep k,h4.keep k,h5.keep k⟩
def bDv (p:Prg) (g:Graph) (kind:Int) (w:World) (e:Ending) (w':World):Prop:=∃ B,e = .returned (.pointer (some ⟨B,0,none⟩))/\aLw w' B p g kind/\Bel w w'
def bBv (w:World) (m gb v:Nat) (hs:List Value) (T:List (List (Int × Int))):Prop :=
 ∀ u,v<=u->u<T.length->∃ gu,hs[u]?=some (.slice (some ⟨gu,0,none⟩) m m)/\gu≠gb/\gu<w.heap.size/\∀ x i,((aEm T).getD u [])[i]?=some x->w.cell? ⟨gu,i,none⟩=some (.int .i64 x)
theorem bBv.kept {w w':World} {m gb v:Nat} {hs:List Value} {T:List (List (Int × Int))} (h:bBv w m gb v hs T) (hf:Fr gb w w'):bBv w' m gb v hs T:=fun u hu hu2=>by
 obtain ⟨gu,h1,h2,h3,h4⟩:=h u hu hu2;exact ⟨gu,h1,h2,Nat.lt_of_lt_of_le h3 hf.1,fun x i hx=>(hf.cell h3 h2).trans (h4 x i hx)⟩
theorem aSe (v1:Value) (p:Prg) (v2:Value) (g:Graph) (kind:Int) (w:World) (h:aK5 w v1 p) (h2:aB2 w v2 g) (hL:aCc p=true) (hG:aBt g=true) (hf:aCw p g=0) (hsz:aDn p g<=32768) :
  Calls prog 35 #[v1,v2,.int .i64 kind] w (bDv p g kind w):=by
 have HPV:=aA0 (fun w' (k:Bel w w')=>h.keep k);have HGV:=aA0 (fun w' (k:Bel w w')=>h2.keep k);obtain ⟨A1,k1,A2,k2,rfl,_,_,_,_,_,_⟩:=h;obtain ⟨A3,k3,A4,k4,rfl,_,_,_,_,_,_⟩:=h2;have HW:=Bel.refl ((w.alloc (.cells #[.string p.name,.slice A1 p.vars.length k1,.slice A2 p.rules.length k2] 31)).alloc (.cells #[.slice A3 g.ids.length k3,.slice A4 g.ports.length k4] 25));have hcell:=aA0 (fun w' (kk:Bel ((w.alloc (.cells #[.string p.name,.slice A1 p.vars.length k1,.slice A2 p.rules.length k2] 31)).alloc (.cells #[.slice A3 g.ids.length k3,.slice A4 g.ports.length k4] 25)) w')=>aDh kk);have hv10:=(aBl hL).2.1;obtain ⟨h1,h3,_⟩:=aAt hf;have HC:=aA0 h1;have HG:=aA0 h3;have HGL:=aA0 hG;have hn24:g.ports.length<=24:=h3.le;have HTL:Hid ((aAb p g).length=g.ports.length):=by show _=_;rw [aAr,h3.ids]
 have HM:Hid (∀ t∈aAb p g,t.length=p.vars.length):=by
  intro t ht
  unfold aAb at ht;obtain ⟨v,_,rfl⟩:=List.mem_map.1 ht;simp [aJ3]
 have HS:=aA0 (aIj hf);have HSZ:=aA0 hsz;have HMV:Hid True:=trivial;have HNT:Hid True:=trivial;have HT:Hid True:=trivial;obtain ⟨i0,hi0,hz0,hz1,hz2⟩:=info_parts aTa;obtain ⟨j0,hj0,hy0,hy1,hy2⟩:=info_parts aKe;clear hL hG hf hsz h1 h3;go_enter func35,ntmps35
 go_wp2_with fail
 replace HW:=HW.drew
 go_region_held3 (fun w'=>w'.cell? ⟨w.heap.size,0,none⟩=some (.string p.name)/\w'.cell? ⟨w.heap.size,1,none⟩=some (.slice A1 p.vars.length k1)/\w'.cell? ⟨w.heap.size,2,none⟩=some (.slice A2 p.rules.length k2)/\w'.cell? ⟨w.heap.size+1,0,none⟩=some (.slice A3 g.ids.length k3)/\w'.cell? ⟨w.heap.size+1,1,none⟩=some (.slice A4 g.ports.length k4)/\w.heap.size+1<w'.heap.size) (first | exact hcell.out _ HW | exact hcell.out _ (HW.alloc _)) (first
  | (go_simp;go_at_call 78;refine (aYh _ p _ g _ (HPV.out _ (aA2 HW)) (HGV.out _ (aA2 HW)) HC.out HG.out HGL.out).mono ?_;rintro e w' ⟨bm,rfl,hMV,hb⟩;replace HMV:=aA0 hMV;(try replace HT:=aA0 (aFe.keep HT.out hb));(try replace HNT:=aA0 (aOp.keep HNT.out hb));replace HW:=HW.trans hb;clear hb hMV)
  | (go_simp;go_at_call 79;refine (bFc _ g _ (HGV.out _ (aA2 HW)) HG.out).mono ?_;rintro e w' ⟨AN,kn,rfl,hNT,_,_,hb⟩;replace HNT:=aA0 hNT;(try replace HT:=aA0 (aFe.keep HT.out hb));(try replace HMV:=aA0 (aEo.keep HMV.out hb));replace HW:=HW.trans hb;clear hb hNT)
  | (go_simp;go_at_call 77;refine (aJz _ p _ g _ (HPV.out _ (aA2 HW)) (HGV.out _ (aA2 HW)) HC.out HG.out HGL.out).mono ?_;rintro e w' ⟨tv,rfl,htv,hb⟩;obtain ⟨AT,kt,rfl,hTR,_⟩:=(id htv:aHl _ _ _);rw [HTL.out] at hTR;replace HT:=aA0 hTR;(try replace HMV:=aA0 (aEo.keep HMV.out hb));(try replace HNT:=aA0 (aOp.keep HNT.out hb));replace HW:=HW.trans hb;clear hb htv hTR))
 rw [HTL.out];have HBk:=aA0 (Blk.new w' (aEx bm AN g.ports.length kn kind AT kt (.slice none 0 0)) 101);have HB0:=aA0 ((Bel.refl w').alloc (.cells (aEx bm AN g.ports.length kn kind AT kt (.slice none 0 0)) 101));have HW0:=aA0 HW;have hszw:=(aA2 HW).size;replace HW:=HW.alloc (.cells (aEx bm AN g.ports.length kn kind AT kt (.slice none 0 0)) 101);have z3:=HBk.out.cell 3 (v := .slice AT g.ports.length kt) rfl;have zl:=HBk.out.lt;have ez:(w'.alloc (.cells (aEx bm AN g.ports.length kn kind AT kt (.slice none 0 0)) 101)).heap.size=w'.heap.size+1:=by simp
 obtain ⟨B,hB⟩:∃ B,B=w'.heap.size:=⟨_,rfl⟩;obtain ⟨wx,hwx⟩:∃ wx,wx=w'.alloc (.cells (aEx bm AN g.ports.length kn kind AT kt (.slice none 0 0)) 101):=⟨_,rfl⟩;rw [<- hwx,<- hB] at HBk z3 zl ez;rw [<- hwx] at HB0 HW;rw [show (w'.alloc (.cells #[.pointer (some ⟨bm,0,none⟩),.slice AN g.ports.length kn,.int .i64 kind,.slice AT g.ports.length kt,.slice none 0 0] 101))=wx from hwx.symm,<- hB]
 have HBW:Hid (w.heap.size+1<B/\w'.heap.size<=B):=by
  refine ⟨?_,by omega⟩
  rw [hB];have:=HW0.out.size;simp at this;omega
 have HW9:=aA0 (aA2 HW0.out);clear hwx hszw HW0 hB
 go_wp2_with (at_make;refine aB7 _ rfl 66 (.tmp 27) (.tmp 27) rfl wx.heap.size 22 i0 (.slice none 0 0) 1 underlying66 hi0 hz0 hz1 .i64 .i64 g.ports.length rfl rfl (by rw [hz2];omega) (by unfold maxLen;omega) (Nat.le_refl _) ?_;intro gb w1 hown hb;rw [aB3 _ rfl] at hown;have HO:=aA0 hown;have HBk1:=aA0 (HBk.out.keep hb);have z4:=HBk1.out.cell 4 (v := .slice none 0 0) rfl;have zf:=HBk1.out.frozen 4;have zl1:=HBk1.out.lt;have z31:=HBk1.out.cell 3 (v := .slice AT g.ports.length kt) rfl;replace HB0:=aA0 (HB0.out.trans hb);have HW1:=HW.trans hb;clear hown hb z3)
 have hgb:=aAa HO.out;have hnB:B≠gb:=by omega
 have HO2:=aA0 (aAh HO.out (a:=⟨B,4,none⟩) (by simp;omega) (.slice (some ⟨gb,0,none⟩) g.ports.length g.ports.length))
 have HBk2:Hid (Blk (w1.setCell ⟨B,4,none⟩ (.slice (some ⟨gb,0,none⟩) g.ports.length g.ports.length)) B (aEx bm AN g.ports.length kn kind AT kt (.slice (some ⟨gb,0,none⟩) g.ports.length g.ports.length)) 101):=HBk1.out.set 4 _;have HB2:=aA0 (HB0.out.setCell (p:=⟨B,4,none⟩) HBW.out.2 (.slice (some ⟨gb,0,none⟩) g.ports.length g.ports.length));have HGB:Hid (w'.heap.size<=gb/\B<gb):=by refine ⟨?_,by omega⟩;have:=HBW.out.2;omega
 clear HO HBk HBk1 HB0 z4 zf zl zl1 z31 HW HW1 hgb ez;generalize w1.setCell ⟨B,4,none⟩ (.slice (some ⟨gb,0,none⟩) g.ports.length g.ports.length)=w2 at *;obtain ⟨T,hTe⟩:∃ T,T=aAb p g:=⟨_,rfl⟩;have HTE:=aA0 hTe;rw [<- hTe] at HT HTL HM HS;have HTZ:Hid (aAz T<=32768):=by have:=HSZ.out;unfold aDn at this;rw [<- hTe] at this;exact this
 clear hTe
 go_loopg [8,9,10] g.ports.length (fun k pl zv _x wr=>∃ (v:Nat) (hs:List Value) (z:Int),v<=g.ports.length/\k=v/\pl = .int .i64 (aAz (T.drop v))/\zv = .int .i64 z/\z=(v:Int)-1/\Hid (wr.ownsRow wx.heap.size 22 1 (.slice (some ⟨gb,0,none⟩) g.ports.length g.ports.length) g.ports.length hs)/\Hid (bBv wr p.vars.length gb v hs T)/\Hid (Blk wr B (aEx bm AN g.ports.length kn kind AT kt (.slice (some ⟨gb,0,none⟩) g.ports.length g.ports.length)) 101)/\Hid (Bel w' wr))
 case atStart =>
  refine ⟨g.ports.length,_,_,Nat.le_refl _,rfl,?_,rfl,rfl,HO2,fun u h1 h2=>?_,HBk2,HB2⟩
  .rw [<- HTL.out,List.drop_length];rfl
  .have:=HTL.out;omega
 case round =>
  clear HO2 HBk2 HB2;obtain ⟨wo,rfl⟩:∃ wo:World,wo=wr:=⟨_,rfl⟩;obtain ⟨v,hs,z,hv,hkv,rfl,rfl,hz,HO,HD,HBk,HB⟩:=hrel;obtain rfl:=hkv.symm;cases v with
  | zero =>
   have d0:decide (0<=z)=false:=by simp;omega
   have HEND:=aA0 (HB.out)
   go_wp2_with fail
   go_ret;have hB:=HB.out;refine ⟨B,rfl,⟨bm,AN,kn,AT,kt,some ⟨gb,0,none⟩,g.ports.length,HBk.out,HMV.out.keep hB,HNT.out.keep hB,?_,?_⟩,HW9.out.trans hB⟩
   .rw [<- HTE.out];exact aFe.keep HT.out hB
   .rw [<- HTE.out]
    refine ⟨by rw [aCq,HTL.out],fun i x hx=>?_⟩
    have hi:i<T.length:=by have:=(List.getElem?_eq_some_iff.1 hx).1;rwa [aCq] at this
    obtain ⟨gu,h1,h2,h3,h4⟩:=HD.out i (Nat.zero_le _) hi;obtain ⟨g',e1,_,hlt',hcell,_⟩:=aAj HO.out h1;obtain rfl:gb=g':=by simpa using e1
    have hrow:(aEm T).getD i []=x:=by rw [List.getD_eq_getElem?_getD,hx];rfl
    have hxl:x.length=p.vars.length:=by
     rw [aKl hi] at hx;obtain rfl:=Option.some.inj hx;rw [aEf,HM.out _ (List.getElem_mem hi)]
    refine ⟨gb,0,rfl,hlt',some ⟨gu,0,none⟩,p.vars.length,?_,⟨rfl,fun j y hy=>⟨gu,0,rfl,h3,?_⟩⟩,by omega,by unfold maxLen;omega⟩
    .rw [hxl,Nat.zero_add,Nat.mul_one];exact hcell
    .have:=h4 y j (by rw [hrow];exact hy)
     unfold aJ4
     rwa [Nat.zero_add,Nat.mul_one]
  | succ u =>
   obtain rfl:z=(u:Int):=by omega
   have d0:decide ((0:Int)<=(u:Int))=true:=by simp
   clear hz;have hut:u<T.length:=by rw [HTL.out];omega
   have hlt:decide (u<g.ports.length)=true:=by simp;omega
   have hltI:(u:Int)<(g.ports.length:Int):=by omega
   have hl:=HM.out _ (List.getElem_mem hut);obtain ⟨b,o,R,rc,rfl,hb,hc,hPR,_,_⟩:=aFe.at_ (n:=g.ports.length) (HT.out) u hut;rw [hl] at hc;have HTC:=aA0 (fun w3 (k:Bel w' w3)=>show w3.cell? ⟨b,o+u,none⟩=some (.slice R p.vars.length rc)/\b<w3.heap.size from ⟨(k.cell hb).trans hc,Nat.lt_of_lt_of_le hb k.size⟩)
   have HPR:=aA0 hPR;have hbg:b≠gb:=by have:=HGB.out;omega
   clear hb hc hPR;obtain ⟨hc,hb⟩:=HTC.out _ HB.out;have z3:=HBk.out.cell 3 (v := .slice (some ⟨b,o,none⟩) g.ports.length kt) rfl;have z4:=HBk.out.cell 4 (v := .slice (some ⟨gb,0,none⟩) g.ports.length g.ports.length) rfl;have zl:=HBk.out.lt;have hgl:=(aAa HO.out).2;have hsl:hs.length=g.ports.length:=by have:=HO.out.1;omega
   obtain ⟨w1,hmk,hown,hgrw⟩:=run_make_full (P:=prog) wo.drew wo.heap.size 22 3 j0 (.int .i64 0) 1 underlying22 hj0 hy0 hy1 .i64 .i64 p.vars.length (by rw [hy2];omega) (by unfold maxLen;omega) (by simp)
   have ewz:wo.drew.heap.size=wo.heap.size:=rfl;rw [aB3 _ rfl,ewz] at hown;rw [ewz] at hmk;have HR:=aA0 hown;have HB1:=aA0 (((Bel.refl wo).drew).grown hgrw (fun k hk=>by cases hk))
   have HO1:=aA0 (HB1.out.owns HO.out);have y1:=aDy HO1.out u (by omega)
   have y2:=HO1.out.frozenAt u;have hgl1:=(aAa HO1.out).2;clear hown hgrw;have hcell:=aA0 (fun w3 (kk:Fr gb wo w3)=>show w3.cell? ⟨B,3,none⟩=some (.slice (some ⟨b,o,none⟩) g.ports.length kt)/\w3.cell? ⟨B,4,none⟩=some (.slice (some ⟨gb,0,none⟩) g.ports.length g.ports.length)/\w3.cell? ⟨b,o+u,none⟩=some (.slice R p.vars.length rc)/\B<w3.heap.size/\gb<w3.heap.size/\b<w3.heap.size from ⟨(kk.cell zl hnB).trans z3,(kk.cell zl hnB).trans z4,(kk.cell hb hbg).trans hc,Nat.lt_of_lt_of_le zl kk.1,Nat.lt_of_lt_of_le hgl kk.1,Nat.lt_of_lt_of_le hb kk.1⟩)
   have HG0:=(Fr.refl gb wo).drew;have HG1:=Fr.of_bel (g:=gb) HB1.out
   go_wp2_with fail
   go_region_held3 (fun w3=>w3.cell? ⟨B,3,none⟩=some (.slice (some ⟨b,o,none⟩) g.ports.length kt)/\w3.cell? ⟨B,4,none⟩=some (.slice (some ⟨gb,0,none⟩) g.ports.length g.ports.length)/\w3.cell? ⟨b,o+u,none⟩=some (.slice R p.vars.length rc)/\B<w3.heap.size/\gb<w3.heap.size/\b<w3.heap.size)
    (first | exact hcell.out _ HG0 | exact hcell.out _ HG1 | exact hcell.out _ (HG1.set _ _)) (fail)
   have hne:gb≠wo.heap.size:=by omega
   have HO2:=aA0 (HO1.out.stored u (.slice (some ⟨wo.heap.size,0,none⟩) p.vars.length p.vars.length)).1;have HF1:=HG1.set u (.slice (some ⟨wo.heap.size,0,none⟩) p.vars.length p.vars.length)
   have HR2:Hid ((w1.setCell ⟨gb,u,none⟩ (.slice (some ⟨wo.heap.size,0,none⟩) p.vars.length p.vars.length)).ownsRow wo.heap.size 3 1 (.slice (some ⟨wo.heap.size,0,none⟩) p.vars.length p.vars.length) p.vars.length ((aOc T[u] (aAz (T.drop (u+1))) p.vars.length).map (Value.int .i64))):=by
    have e:(aOc T[u] (aAz (T.drop (u+1))) p.vars.length).map (Value.int .i64)=List.replicate p.vars.length (.int .i64 0):=by
     have:=bB8 T[u] (aAz (T.drop (u+1)));rw [hl] at this;rw [this,List.map_replicate]
    show World.ownsRow _ _ _ _ _ _ _
    rw [e];exact aH8 HR.out ((Fr.refl gb w1).set u (.slice (some ⟨wo.heap.size,0,none⟩) p.vars.length p.vars.length)) (Ne.symm hne)
   have HBk2:Hid (Blk (w1.setCell ⟨gb,u,none⟩ (.slice (some ⟨wo.heap.size,0,none⟩) p.vars.length p.vars.length)) B (aEx bm (AN) g.ports.length kn kind (some ⟨b,o,none⟩) kt (.slice (some ⟨gb,0,none⟩) g.ports.length g.ports.length)) 101):=(HBk.out.keep HB1.out).other (by simpa using hnB) _
   have HB2:=aA0 ((HB.out.trans HB1.out).setCell (p:=⟨gb,u,none⟩) HGB.out.1 (.slice (some ⟨wo.heap.size,0,none⟩) p.vars.length p.vars.length));obtain ⟨hc,hb⟩:=HTC.out _ HB2.out;have z3:=HBk2.out.cell 3 (v := .slice (some ⟨b,o,none⟩) g.ports.length kt) rfl;have zl:=HBk2.out.lt;clear HG0 HG1 hmk hcell HO1 HR HB1 y1 y2 hgl1 hgl z4 hc hb z3 zl ewz;obtain ⟨hc,hb⟩:=HTC.out _ HB2.out;have z3:=HBk2.out.cell 3 (v := .slice (some ⟨b,o,none⟩) g.ports.length kt) rfl;have zl:=HBk2.out.lt;generalize hgr:wo.heap.size=gr at *;generalize w1.setCell ⟨gb,u,none⟩ (.slice (some ⟨gr,0,none⟩) p.vars.length p.vars.length)=w2 at *
   go_wp2_with fail
   clear hc hb z3 zl;have hgrB:B<gr:=by rw [<- hgr];exact HBk.out.lt
   have hgrg:gb<gr:=by rw [<- hgr];exact (aAa HO.out).2
   have hgrb:b<gr:=by rw [<- hgr];exact (HTC.out _ HB.out).2
   have HGW:Hid (w'.heap.size<=gr):=by show _<=_;rw [<- hgr];exact HB.out.size
   have hgrw:wo.heap.size<=gr:=by omega
   clear hgr;have HF1':=aA0 HF1;have HM1:Hid (∃ M,M=aAz (T.drop (u+1))):=⟨_,rfl⟩;obtain ⟨M,hM⟩:=HM1.out;have HSW:=aA0 (fun x=>aRu HS.out.ok HTZ.out hut x);rw [<- hM] at HR2 HSW;rw [<- hM];have HMM:=aA0 hM;clear hM HM1
   go_loopg [8,10] p.vars.length (fun k pl zx ws=>∃ (x:Nat) (z2:Int),x<=p.vars.length/\k=x/\pl = .int .i64 (aB4 (T[u].drop x)*M)/\zx = .int .i64 z2/\z2=(x:Int)-1/\Hid (ws.ownsRow gr 3 1 (.slice (some ⟨gr,0,none⟩) p.vars.length p.vars.length) p.vars.length ((aOc T[u] M x).map (Value.int .i64)))/\Hid (ws.ownsRow wx.heap.size 22 1 (.slice (some ⟨gb,0,none⟩) g.ports.length g.ports.length) g.ports.length (hs.set u (.slice (some ⟨gr,0,none⟩) p.vars.length p.vars.length)))/\Hid (Blk ws B (aEx bm AN g.ports.length kn kind (some ⟨b,o,none⟩) kt (.slice (some ⟨gb,0,none⟩) g.ports.length g.ports.length)) 101)/\Fr gb wo ws/\Hid (Bel w' ws))
   case atStart =>
    refine ⟨p.vars.length,_,Nat.le_refl _,rfl,?_,rfl,rfl,HR2,HO2,HBk2,HF1'.out,HB2⟩
    rw [<- hl,List.drop_length];show _=Value.int _ (1*M)
    rw [Int.one_mul]
   case round =>
    clear HR2 HO2 HBk2 HF1 HF1' HB2;obtain ⟨x,z2,hx,hkx,rfl,rfl,hz,HR,HO2,HBk2,HF,HB2⟩:=hrel;obtain rfl:=hkx.symm;cases x with
    | zero =>
     have d2:decide (0<=z2)=false:=by simp;omega
     go_wp2_with fail
     go_roundg u
     case rel =>
      refine ⟨u,_,_,by omega,rfl,?_,rfl,by omega,HO2,?_,HBk2,HB2⟩
      .rw [bDh hut,HMM.out]
      intro y hy1 hy2
      by_cases hyu:y=u
      .subst hyu
       refine ⟨gr,List.getElem?_set_self (by omega),by omega,(aAa HR.out).2,fun x i hx=>?_⟩
       have hR:=HR.out;rw [bFm] at hR;rw [List.getD_eq_getElem?_getD,aKl hut,<- HMM.out] at hx;obtain ⟨q1,e1,_,_,yy,_⟩:=aAj hR (j:=i) (u := .int .i64 x) (by rw [List.getElem?_map];rw [show (aDz M T[y])[i]?=some x from hx];rfl)
       obtain rfl:gr=q1:=by simpa using e1
       exact yy
      .obtain ⟨gu,h1,h2,h3,h4⟩:=(HD.out.kept HF) y (by omega) hy2
       exact ⟨gu,by rw [List.getElem?_set_ne (fun e=>hyu e.symm)];exact h1,h2,h3,h4⟩
     case measure=>omega
    | succ y =>
     obtain rfl:z2=(y:Int):=by omega
     clear hz;have d2:decide ((0:Int)<=(y:Int))=true:=by simp
     have hyt:y<T[u].length:=by rw [hl];omega
     have hyI:(y:Int)<(p.vars.length:Int):=by omega
     have HPU:=aA0 (bJ3 (M:=M) hyt);obtain ⟨b1,o1,rfl,hb1,k0,k1⟩:=HPR.out.at_ y hyt;obtain ⟨hc,hb⟩:=HTC.out _ HB2.out;rw [<- HB2.out.cell hb1] at k0 k1;have hb1r:b1<gr:=Nat.lt_of_lt_of_le hb1 HGW.out;replace hb1:=Nat.lt_of_lt_of_le hb1 HB2.out.size;have z3:=HBk2.out.cell 3 (v := .slice (some ⟨b,o,none⟩) g.ports.length kt) rfl;have z4:=HBk2.out.cell 4 (v := .slice (some ⟨gb,0,none⟩) g.ports.length g.ports.length) rfl;have zl:=HBk2.out.lt
     have hh:wr.cell? ⟨gb,u,none⟩=some (.slice (some ⟨gr,0,none⟩) p.vars.length p.vars.length):=by
      have:=aDy HO2.out u (by simp;omega)
      simpa using this
     have hgl:=(aAa HO2.out).2;have hgrl:=(aAa HR.out).2;have hy0:=aDy HR.out y (by rw [List.length_map,aYr (by omega)];exact hyt)
     have hyf:=HR.out.frozenAt y;have hsw1:=HSW.out (y+1);have hsw0:=HSW.out y;have hwd:=HS.out.width hut hyt;have hbn:=HS.out.at_ hut hyt;rw [aVt hyt] at hsw0;obtain ⟨Q,hQ⟩:∃ Q,Q=aB4 (T[u].drop (y+1))*M:=⟨_,rfl⟩;have hQ2:(T[u][y].2-T[u][y].1+1)*aB4 (T[u].drop (y+1))*M=Q*(T[u][y].2-T[u][y].1+1):=by rw [hQ,Int.mul_assoc,Int.mul_comm]
     rw [hQ2] at hsw0;rw [<- hQ] at hsw1 HPU;rw [<- hQ];have HQ2:=aA0 hQ2;clear hQ hQ2;have hmr:=aHr (a:=Q) (b:=T[u][y].2-T[u][y].1+1) (A:=32768) (B:=90000) (by omega) hsw1.2 (by omega) hwd.2
     go_wp2_with fail
     have HFs:=(Fr.refl gr wr).set y (.int .i64 Q)
     have HR3:Hid ((wr.setCell ⟨gr,y,none⟩ (.int .i64 Q)).ownsRow gr 3 1 (.slice (some ⟨gr,0,none⟩) p.vars.length p.vars.length) p.vars.length ((aOc T[u] M y).map (Value.int .i64))):=by
      have:=(HR.out.stored y (.int .i64 Q)).1;rw [<- List.map_set,HPU.out] at this;exact this
     have HO3:=aA0 (aH8 HO2.out HFs (by omega))
     have HBk3:Hid (Blk (wr.setCell ⟨gr,y,none⟩ (.int .i64 Q)) B (aEx bm AN g.ports.length kn kind (some ⟨b,o,none⟩) kt (.slice (some ⟨gb,0,none⟩) g.ports.length g.ports.length)) 101):=HBk2.out.other (by simp;omega) _
     have HF3:=aA0 (HF.setNew (p:=⟨gr,y,none⟩) (by simp;omega) (.int .i64 Q))
     have HB3:=aA0 (HB2.out.setCell (p:=⟨gr,y,none⟩) HGW.out (.int .i64 Q));have c0:=(HFs.cell (o:=o1+y*2) hb1 (by omega)).trans k0
     have c1:=(HFs.cell (o:=o1+y*2+1) hb1 (by omega)).trans k1
     have c2:=(HFs.cell (o:=o+u) hb (by omega)).trans hc
     have c3:=(HFs.cell (o:=3) zl (by omega)).trans z3
     have l1:=Nat.lt_of_lt_of_le hb1 HFs.1;have l2:=Nat.lt_of_lt_of_le hb HFs.1;have l3:=Nat.lt_of_lt_of_le zl HFs.1;clear HFs z3 z4 zl hh hgl hgrl hy0 hyf hc hb hb1 k0 k1;generalize wr.setCell ⟨gr,y,none⟩ (.int .i64 Q)=wq at *
     go_quiet (fail)
     go_wp2_with fail
     go_roundg y
     case rel =>
      refine ⟨y,_,by omega,rfl,?_,rfl,by omega,Bel.owns ((Bel.refl _).drewN _) HR3.out,Bel.owns ((Bel.refl _).drewN _) HO3.out,HBk3.out.keep ((Bel.refl _).drewN _),HF3.out.drewN _,HB3.out.drewN _⟩
      rw [aVt hyt,HQ2.out]
     case measure=>omega
end Go.Proofs.YtmoebklkkjbigaaGreatDoor

