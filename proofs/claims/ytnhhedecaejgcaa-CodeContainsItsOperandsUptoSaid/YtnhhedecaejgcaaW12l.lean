/- Contracts of the reference's Compile and Same; the sanity check of layer 12. -/
import Derived.Test.YtnhhedecaejgcaaW12c
import Derived.Test.YtnhhedecaejgcaaW12k
import Derived.Test.YtnhhedecaejgcaaP12x
import Derived.Test.YtnhhedecaejgcaaW05h
namespace Go.Proofs.Ytnhhedecaejgcaa
open Go.RowKit

theorem codeF_one {es : List Term} {a b : List Term × Int} (ha : codeF es a) (hb : codeF es b) : a = b := by
  rcases ha with ⟨h1, rfl⟩ | ⟨h1, x, hx, hx2, rfl⟩
  · rcases hb with ⟨_, rfl⟩ | ⟨h2, _⟩
    · rfl
    · rw [h1] at h2; cases h2
  · rcases hb with ⟨h2, _⟩ | ⟨_, y, hy, hy2, rfl⟩
    · rw [h1] at h2; cases h2
    · rw [Ex.one hx hy (hx2.trans hy2.symm)]

set_option maxHeartbeats 1000000 in
theorem refCompile_any (A : Option Addr) (n c : Nat) (es : List Term) (w : World) (h : TermsR w A n es) (hl : n ≤ 100000) :
    Calls Try.prog 11 #[.slice A n c] w (RetCode es w) := by
  have H := Lib.hid h; clear h
  have hl' : n ≤ 1000000 := by omega
  cases hv : validF es 6 with
  | false =>
    have HV := Lib.hid hv
    go_enter Try.func11, Try.ntmps11
    go_wp2_with (go_at_call 14; refine (refValid_any _ _ _ es _ _ H.out hl').mono ?_; rintro e w1 ⟨rfl, hb⟩; rw [hv])
    go_ret2
    exact ⟨none, 0, [], 7, .inl ⟨HV.out, rfl⟩, rfl, World.ownsRow_nil _ _ _ _, hb⟩
  | true =>
    obtain ⟨x, hx1, hx2, hx3, _⟩ := valid_tree hv
    have hsz : 0 + x.size ≤ 1000000 := by have := x.size_le; have : x.len = es.length := by rw [← hx2]; rfl
                                          omega
    have HX := Lib.hid (At.whole hx1 hx2)
    have HP := Lib.hid (show codeF es (x.code 0, 0) from .inr ⟨hv, x, hx1, hx2, rfl⟩)
    clear hx1 hx2 hx3
    go_enter Try.func11, Try.ntmps11
    go_wp2_with (go_at_call 14; refine (refValid_any _ _ _ es _ _ H.out hl').mono ?_; rintro e w1 ⟨rfl, hb⟩; rw [hv])
    refine (translate_any es x 0 _ _ _ c 0 HX.out (H.out.keep hb) hl hsz).mono ?_
    rintro e w2 ⟨A2, c2, rfl, h2, hb2⟩
    replace h2 := Lib.hid h2
    go_wp2_with fail
    go_ret2
    exact ⟨A2, c2, x.code 0, 0, HP.out, rfl, own_lower h2.out hb.size, hb.trans hb2⟩

set_option maxHeartbeats 1000000 in
theorem same_eq (A A2 : Option Addr) (n c c2 : Nat) (is : List Term) (w : World) (h : TermsR w A n is) (h2 : TermsR w A2 n is) (hl : n ≤ 1000000) :
    Calls Try.prog 12 #[.slice A n c, .slice A2 n c2] w fun e w' => e = .returned (.bool true) ∧ Bel w w' := by
  obtain rfl := h.1
  have H := Lib.hid (fun w' (k : Bel w w') => h.keep k); clear h
  have H2 := Lib.hid (fun w' (k : Bel w w') => h2.keep k); clear h2
  go_enter Try.func12, Try.ntmps12
  go_wp2
  go_loopg [5] is.length (fun g iv wr => ∃ k : Nat, k + g = is.length ∧ iv = .int .i64 k ∧ Bel w wr)
  case atStart => exact ⟨0, by omega, rfl, Bel.refl _⟩
  case round =>
    obtain ⟨k, hk, rfl, hb⟩ := hrel
    by_cases hlt : k < is.length
    · obtain ⟨b, o, rfl, hb1, k1, k2⟩ := TermsR.at_ (H.out wr hb) k hlt
      obtain ⟨b', o', rfl, hb1', k1', k2'⟩ := TermsR.at_ (H2.out wr hb) k hlt
      go_wp2_with fail
      go_quiet (fail)
      go_wp2_with fail
      go_roundg (gk - 1)
      case rel => exact ⟨k + 1, by omega, by go_num, hb.drewN _⟩
      case measure => omega
    · go_wp2_with fail
      go_ret
      exact ⟨rfl, hb⟩

def exCode : List Term := [⟨9, 4⟩, ⟨3, 0⟩, ⟨1, 1⟩, ⟨6, 33⟩, ⟨10, 24⟩]
def exTree : Ex := .un ⟨24, 0⟩ (.bin ⟨33, 0⟩ (.leaf ⟨12, 0⟩) (.leaf ⟨1, 1⟩))
theorem exCode_is {r : List Term × Int} (h : codeF exTerms r) : r = (exCode, 0) := by
  have hv : validF exTerms 6 = true := by decide +kernel
  have hok : exTree.ok := by unfold exTree; simp only [Ex.ok]; decide +kernel
  exact codeF_one h (.inr ⟨hv, exTree, hok, rfl, rfl⟩)

set_option maxRecDepth 100000 in
set_option maxHeartbeats 1000000 in
theorem awake12_any (w : World) : Calls Try.prog 9 #[] w fun e w' => e = .returned (.bool true) ∧ Bel w w' := by
  have hver := Lib.hid (show verifyF exCode 1 = (2, 0, 0) by decide +kernel)
  have hb0 := (Bel.refl w).alloc (.cells (exTerms.flatMap termCells).toArray 37)
  have HT := Lib.hid (terms_of_block (es := exTerms) (heap_new w (.cells (exTerms.flatMap termCells).toArray 37)))
  go_enter Try.func9, Try.ntmps9
  go_wp2_with fail
  refine (compile_any _ _ _ exTerms _ HT.out (by decide)).mono ?_
  rintro e w1 ⟨A, c, is, err, hc, rfl, hown, hb1⟩
  obtain ⟨rfl, rfl⟩ : is = exCode ∧ err = 0 := by have := exCode_is hc; simpa using this
  have hT1 := own_terms hown
  have hcap := (own_cap hown).1
  obtain ⟨b, o, rfl, hbl, k1, k2⟩ := TermsR.at_ hT1 0 (by decide)
  obtain ⟨b', o', e', hbl', k3, k4⟩ := TermsR.at_ hT1 4 (by decide)
  obtain ⟨rfl, rfl⟩ : b = b' ∧ o = o' := by simpa using e'
  clear e' hown hc
  have HT1 := Lib.hid hT1; clear hT1
  have hbx := hb0.trans hb1
  rw [show exCode.length = 5 from rfl]
  go_wp2_with fail
  refine (verify_any _ _ _ exCode 1 _ HT1.out (by decide) hcap (by decide) (by decide)).mono ?_
  rintro e w2 ⟨rfl, hb2⟩
  rw [hver.out]
  have q1 : w2.cell? ⟨b, o, none⟩ = some (.int .i64 9) := (hb2.cell (o := o + 0 * 2) hbl).trans k1
  have q2 : w2.cell? ⟨b, o + 1, none⟩ = some (.int .i64 4) := (hb2.cell (o := o + 0 * 2 + 1) hbl).trans k2
  have q3 : w2.cell? ⟨b, o + 8, none⟩ = some (.int .i64 10) := (hb2.cell (o := o + 4 * 2) hbl).trans k3
  have q4 : w2.cell? ⟨b, o + 8 + 1, none⟩ = some (.int .i64 24) := (hb2.cell (o := o + 4 * 2 + 1) hbl).trans k4
  have hbl2 : b < w2.heap.size := Nat.lt_of_lt_of_le hbl hb2.size
  clear k1 k2 k3 k4
  go_wp2_with fail
  go_ret
  exact ⟨rfl, hbx.trans hb2⟩

end Go.Proofs.Ytnhhedecaejgcaa
