/- Merged of: WEj (see NOTES.md). -/
import Derived.Test.YtaifafljakojnaaGreatYWEi
set_option linter.unusedSimpArgs false
set_option linter.unnecessarySimpa false
set_option linter.unusedVariables false

/- Contracts: the program's Scene.Value, Scene.Guard. -/
namespace Go.Proofs.YtaifafljakojnaaGreat
open Go.RowKit

/-- What an expression must be to be evaluated in a scene. -/
structure EOK (p : Prg) (es : List Term) : Prop where
  ok : (treeOf es).ok
  terms : (treeOf es).terms = es
  arg : ∀ t ∈ es, argF t p.vars.length = true
  bound : boundOK false (treeOf es)
  len : es.length ≤ 1000

set_option maxRecDepth 100000 in
set_option maxHeartbeats 2000000 in
theorem sceneValue_any (B : Nat) (p : Prg) (g : Graph) (vc : Value) (c : Config) (v : Nat) (A : Option Addr) (ce : Nat) (es : List Term) (w : World) (hS : SceneR w B p g) (hC : ConfV w vc c) (hT : TermsR w A es.length es) (hs : SOK p g c v) (he : EOK p es) :
    Calls Tryz.prog 46 #[.pointer (some ⟨B, 0, none⟩), vc, .int .i64 v, .slice A es.length ce] w fun e w' => e = .returned (.int .i64 (evalF g c v (-1) (treeOf es))) ∧ Bel w w' := by
  have HC := Lib.hid hC
  obtain ⟨AC, kc, rfl, _, _, _⟩ := hC
  have HS := Lib.hid hS
  have HT := Lib.hid hT
  have HK := Lib.hid hs
  have HE := Lib.hid he
  have hlen := he.len
  clear hS hT hs he
  go_enter Tryz.func46, Tryz.ntmps46
  have HB := (Bel.refl w).alloc (.cells #[.pointer (some ⟨B, 0, none⟩), .slice AC c.length kc, .int .i64 v, .slice A es.length ce] 139)
  have HWK : Hid (WalkR (w.alloc (.cells #[.pointer (some ⟨B, 0, none⟩), .slice AC c.length kc, .int .i64 v, .slice A es.length ce] 139)) w.heap.size p g c v A ce es) :=
    ⟨B, AC, kc, Blk.new w _ _, HS.out.keep HB, HC.out.keep HB, TermsR.keep HT.out HB⟩
  go_wp2_with (go_at_call 106; refine (value_any p g c v HK.out (treeOf es) false (-1) _ _ _ es 0 _ HWK.out (At.whole HE.out.ok HE.out.terms) HE.out.arg hlen HE.out.bound portOK_false).mono ?_; rintro e w' ⟨rfl, hbb⟩; replace HB := HB.trans hbb; clear hbb)
  go_ret
  exact ⟨rfl, HB⟩


theorem guard_eok {p : Prg} (hc : checkF p = 0) (hl : lightP p = true) {i : Nat} (hi : i < p.rules.length) : EOK p p.rules[i].guard := by
  obtain ⟨t1, t2, t4, t5⟩ := guard_tree hc (List.getElem_mem hi)
  have hgl := (lightR_parts ((lightP_parts hl).2.2.2.2 _ (List.getElem_mem hi))).2.2.1
  exact ⟨t1, t2, t4, t5, by omega⟩

end Go.Proofs.YtaifafljakojnaaGreat

