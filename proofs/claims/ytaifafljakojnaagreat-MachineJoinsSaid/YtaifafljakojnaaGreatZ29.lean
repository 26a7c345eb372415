/- Merged of: OpenI (see NOTES.md). -/
import Derived.Test.YtaifafljakojnaaGreatZ28
set_option linter.unusedSimpArgs false
set_option linter.unnecessarySimpa false
set_option linter.unusedVariables false

/- Slices of instructions among the arguments, opened. -/
namespace Go.Proofs.YtaifafljakojnaaGreat
open Go.ChangeShapes Go.WideShapes Go.ChangeAt Go.RowKit Go.Deep

theorem Tryz.cells_instr : Tryz.prog.cellsOf 43 = 2 := by kernel_rfl
set_option maxRecDepth 100000 in
theorem open_instr_at {H : Type} {enc : TypeId × Value → H} {w : World} {base : Nat} {spare : Nat → Bool} {held : Bool} : ∀ n cs y b o, (∀ j, j < 2 → w.cell? ⟨b, o + j, none⟩ = cs[j]?) → cs.length = 2 → DataW.trod enc Tryz.prog w base spare held n 43 cs = some y → ∃ x, TermAt w b o x ∧ GoodT x := by
  intro n cs y b o hat hl h
  obtain ⟨xs, m, _, _, _, hxl, hf⟩ := DataW.trod_struct Tryz.underlying43 h
  match cs, hl with
  | [u, v], _ =>
    obtain ⟨y0, h0⟩ := trod_field (us := [u]) (hf 0 _ rfl) hxl (by decide) (by simp [Tryz.cells_int])
    obtain ⟨y1, h1⟩ := trod_field (us := [v]) (hf 1 _ rfl) hxl (by decide) (by simp [Tryz.cells_int])
    obtain ⟨x0, hx0, _, wf0⟩ := DataW.trod_int Tryz.underlying3 h0
    obtain ⟨x1, hx1, _, wf1⟩ := DataW.trod_int Tryz.underlying3 h1
    simp at hx0 hx1
    subst hx0; subst hx1
    exact ⟨⟨x0, x1⟩, ⟨by simpa using hat 0 (by omega), by simpa using hat 1 (by omega)⟩, inI64_of_wf wf0, inI64_of_wf wf1⟩
set_option maxRecDepth 100000 in
theorem open_instrsR {H : Type} {enc : TypeId × Value → H} {w : World} {base : Nat} {spare : Nat → Bool} {held : Bool} {r : Reach} {b0 : Nat} {v : Value} {d : DataW H} {p : List MemPlace}
    (h : DataW.Trod enc Tryz.prog w base spare held 22 v d p) (hv : Value.okWide Tryz.prog w r b0 22 v) :
    ∃ (A : Option Addr) (n c : Nat) (es : List Term), v = .slice A n c ∧ TermsR w A n es ∧ (∀ t ∈ es, GoodT t) ∧ n ≤ c ∧ c ≤ maxLen := by
  obtain ⟨a, l, c', rfl⟩ := okWide_slice Tryz.underlying22 hv
  obtain ⟨fuel, h⟩ := h
  obtain ⟨A, n, c, xs, hcs, hr, hg, h1, h2⟩ := open_sliceR (E := TermAt) (Good := GoodT) Tryz.underlying22 Tryz.cells_instr (by decide) open_instr_at h
  exact ⟨A, n, c, xs, by simpa [Value.cells] using hcs, hr, hg, h1, h2⟩
end Go.Proofs.YtaifafljakojnaaGreat

