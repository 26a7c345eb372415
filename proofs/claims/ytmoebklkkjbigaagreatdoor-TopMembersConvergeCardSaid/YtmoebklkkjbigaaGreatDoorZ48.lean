/- Merged. -/
import Derived.Test.YtmoebklkkjbigaaGreatDoorZ47
set_option linter.unusedSimpArgs false
set_option linter.unnecessarySimpa false
set_option linter.unusedVariables false
set_option maxRecDepth 100000
set_option maxHeartbeats 4000000
open Go.Proofs.Tryz

namespace Go.Proofs.YtmoebklkkjbigaaGreatDoor
open Go.RowKit
def aWy (g:Graph) (k:Nat):Nat:=((g.ports.take k).map List.length).sum
theorem aWz {g:Graph} {k:Nat} (h:k<g.ports.length):aWy g (k+1)=aWy g k+g.ports[k].length:=by
 unfold aWy;rw [List.take_succ_eq_append_getElem h,List.map_append,List.sum_append];simp
theorem bDi (v:Value) (g:Graph) (w:World) (h:aB2 w v g) (hG:aBt g=true) (hg:GOK g) :
  Calls prog 10 #[v] w fun e w'=>e = .returned (.tuple #[.int .i64 (g.ids.length:Int),.int .i64 ((aWy g g.ports.length / 2:Nat):Int)])/\Bel w w':=by
 have HGV:=aA0 (fun w' (k:Bel w w')=>h.keep k);obtain ⟨A,k,A2,k2,rfl,hI,_,_,hP,_,_⟩:=h;have HP:=aA0 (fun w' (k:Bel w w')=>hP.keep k);have HL:=aA0 hG;have HGK:=aA0 hg;have hn:g.ports.length<=24:=hg.le;have HB0:=aA0 ((Bel.refl w).alloc (.cells #[.slice A g.ids.length k,.slice A2 g.ports.length k2] 25));have HX:=aA0 (Blk.new w #[.slice A g.ids.length k,.slice A2 g.ports.length k2] 25);clear hI hP hG hg;go_enter func10,ntmps10
 go_wp2_with (refine (aHf _ g _ (HGV.out _ HB0.out) HL.out).mono ?_;rintro e w1 ⟨rfl,hb⟩;rw [(aE6 g).2 HGK.out];have HB1:=aA0 (HB0.out.trans hb);have HX1:=aA0 (HX.out.keep hb);have x1:=HX1.out.cell 1 (v := .slice A2 g.ports.length k2) rfl;have x0:=HX1.out.cell 0 (v := .slice A g.ids.length k) rfl;have xl:=HX1.out.lt;clear hb)
 go_loopg [3,5,12] g.ports.length (fun m y _a z wr=>∃ k:Nat,k<=g.ports.length/\m=g.ports.length-k/\y = .int .i64 (aWy g k:Int)/\z = .int .i64 (k:Int)/\aWy g k<=30*k/\w1=wr)
 case atStart=>exact ⟨0,by omega,rfl,rfl,rfl,by simp [aWy],rfl⟩
 case round =>
  obtain ⟨k,hk,rfl,rfl,rfl,hd,rfl⟩:=hrel
  by_cases hlt:k<g.ports.length
  .have hd0:decide (k<g.ports.length)=true:=by simpa using hlt
   obtain ⟨b,o,R,c,rfl,hb,c0,_,_,_⟩:=(HP.out _ HB1.out).at_ k hlt;have h30:=(aH2 HL.out).2.2 _ (List.getElem_mem hlt);have hsc:=aA0 (aWz hlt);generalize g.ports[k].length=n at *;generalize aWy g k=q at *
   go_wp2_with fail
   go_roundg (g.ports.length-(k+1))
   case rel=>exact ⟨k+1,by omega,rfl,by rw [hsc.out];go_num,by go_num,by rw [hsc.out];omega,rfl⟩
   case measure=>omega
  .obtain rfl:k=g.ports.length:=by omega
   have hd0:decide (g.ports.length<g.ports.length)=false:=by simp
   generalize hq:aWy g g.ports.length=q at *
   go_wp2_with fail
   refine bodyPost_ret (v := .tuple #[.int .i64 (g.ids.length:Int),.int .i64 ((q / 2:Nat):Int)]) (by simp [results,Tryz.results10]) rfl ⟨by rw [hq],HB1.out⟩
theorem bOo {l:List Nat} {n:Nat} (hn:l.Nodup) (hl:∀ x∈l,x<n):aG0 n (fun u=>if u∈l then 1 else 0)=l.length:=by
 have h:=aNo (fun u=>decide (u∈l)) n;have e:(fun v=>if decide (v∈l)=true then 1 else 0)=fun u=>if u∈l then 1 else 0:=by funext u;simp
 rw [e] at h;rw [<- h];apply Nat.le_antisymm
 .exact aRw (List.nodup_range.filter _) (fun x hx=>by simpa using (List.mem_filter.1 hx).2)
 .exact aRw hn (fun x hx=>List.mem_filter.2 ⟨by simpa using hl x hx,by simpa using hx⟩)
theorem bGw {g:Graph} (hg:GOK g) {v:Nat} (hv:v<g.ports.length):(aI4 g v).Nodup:=by
 have h:=aBa.1 (hg.links v hv);unfold aI4;rw [aA8 hv];rw [List.nodup_iff_pairwise_ne,List.pairwise_map];have h2:=List.pairwise_map.1 (List.nodup_iff_pairwise_ne.1 h.2);refine List.Pairwise.imp_of_mem ?_ h2
 intro a b ha hb hne e
 have a1:=aBg.1 (h.1 a ha);have b1:=aBg.1 (h.1 b hb);exact hne (by omega)
theorem aUb {g:Graph} (hg:GOK g):∀ k,k<=g.ports.length->aG0 k (fun v=>aG0 g.ports.length (fun u=>if u∈aI4 g v then 1 else 0))=aWy g k
 | 0,_=>by simp [aWy,aG0]
 | k+1,hk=>by
  have hv:k<g.ports.length:=by omega
  rw [aWz hv,<- aUb hg k (by omega)]
  show _+aG0 g.ports.length (fun u=>if u∈aI4 g k then 1 else 0)=_
  rw [bOo (bGw hg hv) (fun x hx=>(aJ9 hg hx).1)];unfold aI4;rw [List.length_map,aA8 hv]
theorem bHg {g:Graph} (hg:GOK g):2*(aWy g g.ports.length / 2)=aWy g g.ports.length:=by
 obtain ⟨m,hm⟩:=aT5 (a:=fun v u=>if u∈aI4 g v then 1 else 0) (fun v u=>by
  by_cases h:u∈aI4 g v
  .rw [if_pos h,if_pos (aJ9 hg h).2.2]
  .rw [if_neg h,if_neg (fun h2=>h (aJ9 hg h2).2.2)]) (fun v=>by rw [if_neg (bNg hg v)]) g.ports.length
 rw [aUb hg _ (Nat.le_refl _)] at hm;omega
end Go.Proofs.YtmoebklkkjbigaaGreatDoor

