/- The sanity check of the statements of layer 5. -/
import Derived.Test.YtglhfdoahmmoeaaW05g
namespace Go.Proofs.Ytglhfdoahmmoeaa
open Go.RowKit

def exTerms : List Term := [⟨24, 0⟩, ⟨33, 0⟩, ⟨12, 0⟩, ⟨1, 1⟩]

def RetTerms (es : List Term) (w : World) (e : Ending) (w' : World) : Prop := ∃ A c, e = .returned (.slice A es.length c) ∧ TermsR w' A es.length es ∧ Bel w w'

theorem example_any (w : World) : Calls Try.prog 32 #[] w (RetTerms exTerms w) := by
  go_enter Try.func32, Try.ntmps32
  go_wp2
  go_ret
  exact ⟨_, _, rfl, terms_of_block (es := exTerms) (heap_new w _), (Bel.refl _).alloc _⟩

theorem awake_any (w : World) : Calls Try.prog 11 #[] w fun e w' => e = .returned (.bool true) ∧ Bel w w' := by
  have h1 : endF exTerms 0 = 4 := by decide +kernel
  have h2 : operandF exTerms 1 1 = 3 := by decide +kernel
  have h3 : depthF exTerms = 3 := by decide +kernel
  have h4 : nestF exTerms = 1 := by decide +kernel
  have h5 : validF exTerms 1 = true := by decide +kernel
  go_enter Try.func11, Try.ntmps11
  go_wp2_with fail
  refine (example_any _).mono ?_
  rintro e w1 ⟨A, c, rfl, hT, hb1⟩
  have H := Lib.hid hT; clear hT
  go_wp2_with (first
    | (go_at_call 14; refine (end_any _ _ _ exTerms _ _ H.out (by decide)).mono ?_; rintro e w' ⟨rfl, rfl⟩)
    | (go_at_call 16; refine (operand_any _ _ _ exTerms _ _ _ H.out (by decide)).mono ?_; rintro e w' ⟨rfl, rfl⟩)
    | (go_at_call 18; refine (depth_any _ _ _ exTerms _ H.out (by decide)).mono ?_; rintro e w2 ⟨rfl, hb2⟩)
    | (go_at_call 20; refine (nest_any _ _ _ exTerms _ (H.out.keep hb2) (by decide)).mono ?_; rintro e w3 ⟨rfl, hb3⟩)
    | (go_at_call 24; refine (valid_any _ _ _ exTerms _ _ ((H.out.keep hb2).keep hb3) (by decide)).mono ?_; rintro e w4 ⟨rfl, hb4⟩))
  go_ret
  exact ⟨ret_bool h5, ((hb1.trans hb2).trans hb3).trans hb4⟩
end Go.Proofs.Ytglhfdoahmmoeaa
