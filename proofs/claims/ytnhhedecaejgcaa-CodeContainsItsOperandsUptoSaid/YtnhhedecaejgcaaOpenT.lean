/- The arguments of layer 5 opened: slices of terms. -/
import Derived.Test.YtnhhedecaejgcaaW05a
import Derived.Test.YtnhhedecaejgcaaOpen
namespace Go.Proofs.Ytnhhedecaejgcaa
open Go.ChangeShapes Go.WideShapes Go.ChangeAt Go.RowKit Go.Deep

theorem Try.cells_term : Try.prog.cellsOf 37 = 2 := by kernel_rfl
def GoodT (t : Term) : Prop := InI64 t.op ∧ InI64 t.arg

theorem trod_field {H : Type} {enc : TypeId × Value → H} {P : Program} {w : World} {base : Nat} {spare : Nat → Bool} {held : Bool} {m i n : Nat} {f : TypeId} {cs us : List Value} {xs : List (DataW H × List MemPlace)}
    (h : DataW.trod enc P w base spare held m f cs = xs[i]?) (hl : xs.length = n) (hi : i < n) (hcs : cs = us) : ∃ y, DataW.trod enc P w base spare held m f us = some y := by
  subst hcs
  rw [List.getElem?_eq_getElem (by omega)] at h
  exact ⟨_, h⟩

theorem open_term_at {H : Type} {enc : TypeId × Value → H} {w : World} {base : Nat} {spare : Nat → Bool} {held : Bool} : ∀ n cs y b o, (∀ j, j < 2 → w.cell? ⟨b, o + j, none⟩ = cs[j]?) → cs.length = 2 → DataW.trod enc Try.prog w base spare held n 37 cs = some y → ∃ x, TermAt w b o x ∧ GoodT x := by
  intro n cs y b o hat hl h
  obtain ⟨xs, m, _, _, _, hxl, hf⟩ := DataW.trod_struct Try.underlying37 h
  match cs, hl with
  | [u, v], _ =>
    obtain ⟨y0, h0⟩ := trod_field (us := [u]) (hf 0 _ rfl) hxl (by decide) (by simp [Try.cells_int])
    obtain ⟨y1, h1⟩ := trod_field (us := [v]) (hf 1 _ rfl) hxl (by decide) (by simp [Try.cells_int])
    obtain ⟨x0, hx0, _, wf0⟩ := DataW.trod_int Try.underlying3 h0
    obtain ⟨x1, hx1, _, wf1⟩ := DataW.trod_int Try.underlying3 h1
    simp at hx0 hx1
    subst hx0; subst hx1
    exact ⟨⟨x0, x1⟩, ⟨by simpa using hat 0 (by omega), by simpa using hat 1 (by omega)⟩, inI64_of_wf wf0, inI64_of_wf wf1⟩

theorem open_termsR {H : Type} {enc : TypeId × Value → H} {w : World} {base : Nat} {spare : Nat → Bool} {held : Bool} {r : Reach} {b0 : Nat} {v : Value} {d : DataW H} {p : List MemPlace}
    (h : DataW.Trod enc Try.prog w base spare held 22 v d p) (hv : Value.okWide Try.prog w r b0 22 v) :
    ∃ (A : Option Addr) (n c : Nat) (es : List Term), v = .slice A n c ∧ TermsR w A n es ∧ (∀ t ∈ es, GoodT t) ∧ n ≤ c ∧ c ≤ maxLen := by
  obtain ⟨a, l, c', rfl⟩ := okWide_slice Try.underlying22 hv
  obtain ⟨fuel, h⟩ := h
  obtain ⟨A, n, c, xs, hcs, hr, hg, h1, h2⟩ := open_sliceR (E := TermAt) (Good := GoodT) Try.underlying22 Try.cells_term (by decide) open_term_at h
  exact ⟨A, n, c, xs, by simpa [Value.cells] using hcs, hr, hg, h1, h2⟩
theorem open_termR {H : Type} {enc : TypeId × Value → H} {w : World} {base : Nat} {spare : Nat → Bool} {held : Bool} {r : Reach} {b0 : Nat} {v : Value} {d : DataW H} {p : List MemPlace}
    (h : DataW.Trod enc Try.prog w base spare held 37 v d p) (hv : Value.okWide Try.prog w r b0 37 v) :
    ∃ t : Term, v = .agg #[.int .i64 t.op, .int .i64 t.arg] ∧ GoodT t := by
  obtain ⟨cs, rfl, hsz⟩ := okWide_struct Try.underlying37 hv
  obtain ⟨l⟩ := cs
  rw [Try.cells_term] at hsz
  match l, hsz with
  | [u, v], _ =>
    obtain ⟨fuel, hf⟩ := h
    obtain ⟨xs, m, _, _, _, hxl, hf⟩ := DataW.trod_struct Try.underlying37 hf
    obtain ⟨y0, h0⟩ := trod_field (us := [u]) (hf 0 _ rfl) hxl (by decide) (by simp [Try.cells_int, Value.cells])
    obtain ⟨y1, h1⟩ := trod_field (us := [v]) (hf 1 _ rfl) hxl (by decide) (by simp [Try.cells_int, Value.cells])
    obtain ⟨x0, hx0, _, wf0⟩ := DataW.trod_int Try.underlying3 h0
    obtain ⟨x1, hx1, _, wf1⟩ := DataW.trod_int Try.underlying3 h1
    simp at hx0 hx1
    subst hx0; subst hx1
    exact ⟨⟨x0, x1⟩, rfl, inI64_of_wf wf0, inI64_of_wf wf1⟩
end Go.Proofs.Ytnhhedecaejgcaa
