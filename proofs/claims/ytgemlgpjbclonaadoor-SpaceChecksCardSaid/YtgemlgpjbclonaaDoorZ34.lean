/- Merged of: Door OpenT OpenG OpenS (see NOTES.md). -/
import Derived.Test.YtgemlgpjbclonaaDoorZ03
import Derived.Test.YtgemlgpjbclonaaDoorZ33
import Derived.Lib.LaidTab
import Derived.LaidMore
import Derived.OpenShut
import Derived.Stop.Joined
import Derived.Test.YtgemlgpjbclonaaDoorZ07
import Derived.Test.YtgemlgpjbclonaaDoorZ32
set_option linter.unusedSimpArgs false
set_option linter.unnecessarySimpa false
set_option linter.unusedVariables false

/- What a row's condition about the library's table gives the walks; the door's own heap meets it. -/
namespace Go.Proofs.YtgemlgpjbclonaaDoor
open Go.ChangeShapes Go.WideShapes Go.ChangeAt Go.WideMaps Go.WideElems Go.RowKit

theorem gTab : Tryd.prog.globalNamed "math/bits.deBruijn32tab" = some 0 := by kernel_rfl
theorem tTab : (Tryd.prog.globals[0]?).map (·.type) = some 131 := by kernel_rfl
theorem cTab1 : Tryd.prog.cellsOf 5 = 1 := by kernel_rfl
theorem cTab32 : Tryd.prog.cellsOf 131 = 32 := by kernel_rfl
def bruijnZ : List Int := bruijn.map fun (n : Nat) => (n : Int)
abbrev laidL : List (String × DataW Unit) := [("math/bits.deBruijn32tab", Rows.laid_math_bits_deBruijn32tab)]
theorem tab32_of {W : World} (h : laidMetH Tryd.prog laidL W) : Tab32 W := by
  rw [MakeChecks.laidMetH_plain _ _ _ (by kernel_rfl)] at h
  have ht : Lib.TabIs Tryd.prog W "math/bits.deBruijn32tab" .u8 bruijnZ :=
    Lib.tabIs_of_head gTab tTab Tryd.underlying131 Tryd.underlying5 cTab1 cTab32 (show laidMet Tryd.prog [("math/bits.deBruijn32tab", Lib.tabData .u8 bruijnZ)] W from h)
  have hc : ∀ i, i < 32 → W.cell? ⟨0, i, none⟩ = some (.int .u8 ((bruijn.getD i 0 : Nat) : Int)) := fun i hi => by
    have h1 := ht.cell gTab i (by simpa [bruijnZ, bruijn] using hi)
    rw [h1]
    have hb : i < bruijn.length := by simpa [bruijn] using hi
    simp [bruijnZ, List.getD_eq_getElem?_getD, hb]
  refine ⟨?_, hc⟩
  have h0 := hc 0 (by decide)
  rcases Nat.lt_or_ge 0 W.heap.size with h | h
  · exact h
  · simp [World.cell?, Array.getElem?_eq_none h] at h0
theorem door_met (os : Os) (args : Array Value) : laidMetH Tryd.prog laidL ((World.doorLaid Tryd.prog 400 os).forCall (fun _ _ => 0) ⟨#[], args, []⟩).memory :=
  laidMetH_of_parts3 (fuel := 8) (laidMet_of_run' 8 (by kernel_rfl) (by kernel_rfl)) (by kernel_rfl) (by kernel_rfl)

end Go.Proofs.YtgemlgpjbclonaaDoor

/- The arguments of layer 5 opened: slices of terms. -/
namespace Go.Proofs.YtgemlgpjbclonaaDoor
open Go.ChangeShapes Go.WideShapes Go.ChangeAt Go.RowKit Go.Deep

theorem Tryd.cells_term : Tryd.prog.cellsOf 50 = 2 := by kernel_rfl
def GoodT (t : Term) : Prop := InI64 t.op ∧ InI64 t.arg

theorem trod_field {H : Type} {enc : TypeId × Value → H} {P : Program} {w : World} {base : Nat} {spare : Nat → Bool} {held : Bool} {m i n : Nat} {f : TypeId} {cs us : List Value} {xs : List (DataW H × List MemPlace)}
    (h : DataW.trod enc P w base spare held m f cs = xs[i]?) (hl : xs.length = n) (hi : i < n) (hcs : cs = us) : ∃ y, DataW.trod enc P w base spare held m f us = some y := by
  subst hcs
  rw [List.getElem?_eq_getElem (by omega)] at h
  exact ⟨_, h⟩

set_option maxRecDepth 100000 in
theorem open_term_at {H : Type} {enc : TypeId × Value → H} {w : World} {base : Nat} {spare : Nat → Bool} {held : Bool} : ∀ n cs y b o, (∀ j, j < 2 → w.cell? ⟨b, o + j, none⟩ = cs[j]?) → cs.length = 2 → DataW.trod enc Tryd.prog w base spare held n 50 cs = some y → ∃ x, TermAt w b o x ∧ GoodT x := by
  intro n cs y b o hat hl h
  obtain ⟨xs, m, _, _, _, hxl, hf⟩ := DataW.trod_struct Tryd.underlying50 h
  match cs, hl with
  | [u, v], _ =>
    obtain ⟨y0, h0⟩ := trod_field (us := [u]) (hf 0 _ rfl) hxl (by decide) (by simp [Tryd.cells_int])
    obtain ⟨y1, h1⟩ := trod_field (us := [v]) (hf 1 _ rfl) hxl (by decide) (by simp [Tryd.cells_int])
    obtain ⟨x0, hx0, _, wf0⟩ := DataW.trod_int Tryd.underlying3 h0
    obtain ⟨x1, hx1, _, wf1⟩ := DataW.trod_int Tryd.underlying3 h1
    simp at hx0 hx1
    subst hx0; subst hx1
    exact ⟨⟨x0, x1⟩, ⟨by simpa using hat 0 (by omega), by simpa using hat 1 (by omega)⟩, inI64_of_wf wf0, inI64_of_wf wf1⟩

set_option maxRecDepth 100000 in
theorem open_termsR {H : Type} {enc : TypeId × Value → H} {w : World} {base : Nat} {spare : Nat → Bool} {held : Bool} {r : Reach} {b0 : Nat} {v : Value} {d : DataW H} {p : List MemPlace}
    (h : DataW.Trod enc Tryd.prog w base spare held 51 v d p) (hv : Value.okWide Tryd.prog w r b0 51 v) :
    ∃ (A : Option Addr) (n c : Nat) (es : List Term), v = .slice A n c ∧ TermsR w A n es ∧ (∀ t ∈ es, GoodT t) ∧ n ≤ c ∧ c ≤ maxLen := by
  obtain ⟨a, l, c', rfl⟩ := okWide_slice Tryd.underlying51 hv
  obtain ⟨fuel, h⟩ := h
  obtain ⟨A, n, c, xs, hcs, hr, hg, h1, h2⟩ := open_sliceR (E := TermAt) (Good := GoodT) Tryd.underlying51 Tryd.cells_term (by decide) open_term_at h
  exact ⟨A, n, c, xs, by simpa [Value.cells] using hcs, hr, hg, h1, h2⟩
set_option maxRecDepth 100000 in
theorem open_termR {H : Type} {enc : TypeId × Value → H} {w : World} {base : Nat} {spare : Nat → Bool} {held : Bool} {r : Reach} {b0 : Nat} {v : Value} {d : DataW H} {p : List MemPlace}
    (h : DataW.Trod enc Tryd.prog w base spare held 50 v d p) (hv : Value.okWide Tryd.prog w r b0 50 v) :
    ∃ t : Term, v = .agg #[.int .i64 t.op, .int .i64 t.arg] ∧ GoodT t := by
  obtain ⟨cs, rfl, hsz⟩ := okWide_struct Tryd.underlying50 hv
  obtain ⟨l⟩ := cs
  rw [Tryd.cells_term] at hsz
  match l, hsz with
  | [u, v], _ =>
    obtain ⟨fuel, hf⟩ := h
    obtain ⟨xs, m, _, _, _, hxl, hf⟩ := DataW.trod_struct Tryd.underlying50 hf
    obtain ⟨y0, h0⟩ := trod_field (us := [u]) (hf 0 _ rfl) hxl (by decide) (by simp [Tryd.cells_int, Value.cells])
    obtain ⟨y1, h1⟩ := trod_field (us := [v]) (hf 1 _ rfl) hxl (by decide) (by simp [Tryd.cells_int, Value.cells])
    obtain ⟨x0, hx0, _, wf0⟩ := DataW.trod_int Tryd.underlying3 h0
    obtain ⟨x1, hx1, _, wf1⟩ := DataW.trod_int Tryd.underlying3 h1
    simp at hx0 hx1
    subst hx0; subst hx1
    exact ⟨⟨x0, x1⟩, rfl, inI64_of_wf wf0, inI64_of_wf wf1⟩
end Go.Proofs.YtgemlgpjbclonaaDoor

/- Graphs, programs and configurations among the arguments, opened. -/
namespace Go.Proofs.YtgemlgpjbclonaaDoor
open Go.ChangeShapes Go.WideShapes Go.ChangeAt Go.RowKit Go.Deep

theorem Tryd.cells_ints : Tryd.prog.cellsOf 33 = 1 := by kernel_rfl
theorem Tryd.cells_terms : Tryd.prog.cellsOf 51 = 1 := by kernel_rfl
theorem Tryd.cells_str : Tryd.prog.cellsOf 9 = 1 := by kernel_rfl
theorem Tryd.cells_link : Tryd.prog.cellsOf 60 = 2 := by kernel_rfl
theorem Tryd.cells_links : Tryd.prog.cellsOf 61 = 1 := by kernel_rfl
theorem Tryd.cells_ports : Tryd.prog.cellsOf 34 = 1 := by kernel_rfl
theorem Tryd.cells_var : Tryd.prog.cellsOf 53 = 6 := by kernel_rfl
theorem Tryd.cells_vars : Tryd.prog.cellsOf 29 = 1 := by kernel_rfl
theorem Tryd.cells_set : Tryd.prog.cellsOf 55 = 2 := by kernel_rfl
theorem Tryd.cells_sets : Tryd.prog.cellsOf 56 = 1 := by kernel_rfl
theorem Tryd.cells_rule : Tryd.prog.cellsOf 58 = 3 := by kernel_rfl
theorem Tryd.cells_rules : Tryd.prog.cellsOf 30 = 1 := by kernel_rfl
theorem Tryd.cells_prg : Tryd.prog.cellsOf 32 = 3 := by kernel_rfl
theorem Tryd.cells_graph : Tryd.prog.cellsOf 36 = 2 := by kernel_rfl

section
variable {H : Type} {enc : TypeId × Value → H} {w : World} {base : Nat} {spare : Nat → Bool} {held : Bool}
def Opens (enc : TypeId × Value → H) (w : World) (base : Nat) (spare : Nat → Bool) (held : Bool) {α : Type} (e : TypeId) (size : Nat) (E : World → Nat → Nat → α → Prop) : Prop :=
  ∀ n cs y b o, (∀ j, j < size → w.cell? ⟨b, o + j, none⟩ = cs[j]?) → cs.length = size → DataW.trod enc Tryd.prog w base spare held n e cs = some y → ∃ x, E w b o x ∧ True
set_option maxRecDepth 100000 in
theorem open_row_at {α : Type} [Inhabited α] {t e : TypeId} {size : Nat} {E : World → Nat → Nat → α → Prop} (ht : Tryd.prog.underlying t = some (.slice e)) (hC : Tryd.prog.cellsOf e = size) (hsz : 0 < size)
    (hE : Opens enc w base spare held e size E) : Opens enc w base spare held t 1 (RowAt size E) := by
  intro n cs y b o hat hl h
  obtain ⟨A, n', c, xs, hcs, hr, _, h1, h2⟩ := open_sliceR (E := E) (Good := fun _ => True) ht hC hsz hE h
  subst hcs
  have hn := hr.1
  subst hn
  exact ⟨xs, ⟨A, c, by simpa using hat 0 (by omega), hr, h1, h2⟩, trivial⟩
set_option maxRecDepth 100000 in
theorem open_ints_at : Opens enc w base spare held 3 1 IntAt := fun n cs y b o h1 h2 h3 => by
  obtain ⟨x, hx, _⟩ := open_int_at Tryd.underlying3 n cs y b o h1 h2 h3
  exact ⟨x, hx, trivial⟩
set_option maxRecDepth 100000 in
theorem open_terms_at : Opens enc w base spare held 50 2 TermAt := fun n cs y b o h1 h2 h3 => by
  obtain ⟨x, hx, _⟩ := open_term_at n cs y b o h1 h2 h3
  exact ⟨x, hx, trivial⟩
/-- One field of a struct, of one cell. -/
theorem open_field {α : Type} {f : TypeId} {k : Nat} {E : World → Nat → Nat → α → Prop} (hE : Opens enc w base spare held f 1 E) {m i n : Nat} {cs : List Value} {u : Value} {xs : List (DataW H × List MemPlace)} {b o : Nat}
    (h : DataW.trod enc Tryd.prog w base spare held m f cs = xs[i]?) (hl : xs.length = n) (hi : i < n) (hcs : cs = [u]) (hat : w.cell? ⟨b, o + k, none⟩ = some u) : ∃ x, E w b (o + k) x := by
  obtain ⟨y, hy⟩ := trod_field h hl hi hcs
  obtain ⟨x, hx, _⟩ := hE m [u] y b (o + k) (fun j hj => by
    obtain rfl : j = 0 := by omega
    exact hat) rfl hy
  exact ⟨x, hx⟩
set_option maxRecDepth 100000 in
theorem open_str_field {f : TypeId} (hf : Tryd.prog.underlying f = some .string) {m i n : Nat} {cs : List Value} {u : Value} {xs : List (DataW H × List MemPlace)}
    (h : DataW.trod enc Tryd.prog w base spare held m f cs = xs[i]?) (hl : xs.length = n) (hi : i < n) (hcs : cs = [u]) : ∃ s, u = .string s := by
  obtain ⟨y, hy⟩ := trod_field h hl hi hcs
  obtain ⟨s, hc, _, _⟩ := DataW.trod_string hf hy
  exact ⟨s, by simpa using hc⟩
set_option maxRecDepth 100000 in
theorem open_int_field {m i n : Nat} {cs : List Value} {u : Value} {xs : List (DataW H × List MemPlace)}
    (h : DataW.trod enc Tryd.prog w base spare held m 3 cs = xs[i]?) (hl : xs.length = n) (hi : i < n) (hcs : cs = [u]) : ∃ x, u = .int .i64 x := by
  obtain ⟨y, hy⟩ := trod_field h hl hi hcs
  obtain ⟨x, hx, _, _⟩ := DataW.trod_int Tryd.underlying3 hy
  exact ⟨x, by simpa using hx⟩
set_option maxRecDepth 100000 in
theorem open_link_at : Opens enc w base spare held 60 2 LinkAt := by
  intro n cs y b o hat hl h
  obtain ⟨xs, m, _, _, _, hxl, hf⟩ := DataW.trod_struct Tryd.underlying60 h
  match cs, hl with
  | [u, v], _ =>
    obtain ⟨x0, rfl⟩ := open_int_field (u := u) (hf 0 _ rfl) hxl (by decide) (by simp [Tryd.cells_int])
    obtain ⟨x1, rfl⟩ := open_int_field (u := v) (hf 1 _ rfl) hxl (by decide) (by simp [Tryd.cells_int])
    exact ⟨⟨x0, x1⟩, ⟨by simpa using hat 0 (by omega), by simpa using hat 1 (by omega)⟩, trivial⟩
set_option maxRecDepth 100000 in
theorem open_var_at : Opens enc w base spare held 53 6 VarAt := by
  intro n cs y b o hat hl h
  obtain ⟨xs, m, _, _, _, hxl, hf⟩ := DataW.trod_struct Tryd.underlying53 h
  match cs, hl with
  | [u0, u1, u2, u3, u4, u5], _ =>
    obtain ⟨s, rfl⟩ := open_str_field Tryd.underlying9 (u := u0) (hf 0 _ rfl) hxl (by decide) (by simp [Tryd.cells_str])
    obtain ⟨x1, rfl⟩ := open_int_field (u := u1) (hf 1 _ rfl) hxl (by decide) (by simp [Tryd.cells_int])
    obtain ⟨x2, rfl⟩ := open_int_field (u := u2) (hf 2 _ rfl) hxl (by decide) (by simp [Tryd.cells_int])
    obtain ⟨x3, rfl⟩ := open_int_field (u := u3) (hf 3 _ rfl) hxl (by decide) (by simp [Tryd.cells_int])
    obtain ⟨x4, rfl⟩ := open_int_field (u := u4) (hf 4 _ rfl) hxl (by decide) (by simp [Tryd.cells_int])
    obtain ⟨x5, rfl⟩ := open_int_field (u := u5) (hf 5 _ rfl) hxl (by decide) (by simp [Tryd.cells_int])
    exact ⟨⟨s, x1, x2, x3, x4, x5⟩, ⟨by simpa using hat 0 (by omega), by simpa using hat 1 (by omega), by simpa using hat 2 (by omega), by simpa using hat 3 (by omega), by simpa using hat 4 (by omega), by simpa using hat 5 (by omega)⟩, trivial⟩
set_option maxRecDepth 100000 in
theorem open_set_at : Opens enc w base spare held 55 2 SetAt := by
  intro n cs y b o hat hl h
  obtain ⟨xs, m, _, _, _, hxl, hf⟩ := DataW.trod_struct Tryd.underlying55 h
  match cs, hl with
  | [u0, u1], _ =>
    obtain ⟨x0, rfl⟩ := open_int_field (u := u0) (hf 0 _ rfl) hxl (by decide) (by simp [Tryd.cells_int])
    obtain ⟨x1, h1⟩ := open_field (k := 1) (u := u1) (b := b) (o := o) (open_row_at Tryd.underlying51 Tryd.cells_term (by decide) open_terms_at) (hf 1 _ rfl) hxl (by decide) (by simp [Tryd.cells_terms]) (by simpa using hat 1 (by omega))
    exact ⟨⟨x0, x1⟩, ⟨by simpa using hat 0 (by omega), h1⟩, trivial⟩
set_option maxRecDepth 100000 in
theorem open_rule_at : Opens enc w base spare held 58 3 RuleAt := by
  intro n cs y b o hat hl h
  obtain ⟨xs, m, _, _, _, hxl, hf⟩ := DataW.trod_struct Tryd.underlying58 h
  match cs, hl with
  | [u0, u1, u2], _ =>
    obtain ⟨s, rfl⟩ := open_str_field Tryd.underlying9 (u := u0) (hf 0 _ rfl) hxl (by decide) (by simp [Tryd.cells_str])
    obtain ⟨x1, h1⟩ := open_field (k := 1) (u := u1) (b := b) (o := o) (open_row_at Tryd.underlying51 Tryd.cells_term (by decide) open_terms_at) (hf 1 _ rfl) hxl (by decide) (by simp [Tryd.cells_terms]) (by simpa using hat 1 (by omega))
    obtain ⟨x2, h2⟩ := open_field (k := 2) (u := u2) (b := b) (o := o) (open_row_at Tryd.underlying56 Tryd.cells_set (by decide) open_set_at) (hf 2 _ rfl) hxl (by decide) (by simp [Tryd.cells_sets]) (by simpa using hat 2 (by omega))
    exact ⟨⟨s, x1, x2⟩, ⟨by simpa using hat 0 (by omega), h1, h2⟩, trivial⟩

set_option maxRecDepth 100000 in
theorem open_slice_of {α : Type} [Inhabited α] {t e : TypeId} {size : Nat} {E : World → Nat → Nat → α → Prop} (ht : Tryd.prog.underlying t = some (.slice e)) (hC : Tryd.prog.cellsOf e = size) (hsz : 0 < size)
    (hE : Opens enc w base spare held e size E) {fuel : Nat} {cs : List Value} {y : DataW H × List MemPlace} (h : DataW.trod enc Tryd.prog w base spare held fuel t cs = some y) :
    ∃ (A : Option Addr) (c : Nat) (xs : List α), cs = [.slice A xs.length c] ∧ SliceR size E w A xs.length xs ∧ xs.length ≤ c ∧ c ≤ maxLen := by
  obtain ⟨A, n', c, xs, hcs, hr, _, h1, h2⟩ := open_sliceR (E := E) (Good := fun _ => True) ht hC hsz hE h
  have hn := hr.1
  subst hn
  exact ⟨A, c, xs, hcs, hr, h1, h2⟩
set_option maxRecDepth 100000 in
theorem open_confV {r : Reach} {b0 : Nat} {v : Value} {d : DataW H} {p : List MemPlace} (h : DataW.Trod enc Tryd.prog w base spare held 67 v d p) (hv : Value.okWide Tryd.prog w r b0 67 v) : ∃ c : Config, ConfV w v c := by
  obtain ⟨a, l, c', rfl⟩ := okWide_slice Tryd.underlying67 hv
  obtain ⟨fuel, h⟩ := h
  obtain ⟨A, c, xs, hcs, hr, h1, h2⟩ := open_slice_of Tryd.underlying67 Tryd.cells_ints (by decide) (open_row_at Tryd.underlying33 Tryd.cells_int (by decide) open_ints_at) h
  exact ⟨xs, A, c, by simpa [Value.cells] using hcs, hr, h1, h2⟩
set_option maxRecDepth 100000 in
theorem open_graphV {r : Reach} {b0 : Nat} {v : Value} {d : DataW H} {p : List MemPlace} (h : DataW.Trod enc Tryd.prog w base spare held 36 v d p) (hv : Value.okWide Tryd.prog w r b0 36 v) : ∃ g : Graph, GraphV w v g := by
  obtain ⟨cs, rfl, hsz⟩ := okWide_struct Tryd.underlying36 hv
  obtain ⟨l⟩ := cs
  rw [Tryd.cells_graph] at hsz
  match l, hsz with
  | [u, v], _ =>
    obtain ⟨fuel, hf⟩ := h
    obtain ⟨xs, m, _, _, _, hxl, hf⟩ := DataW.trod_struct Tryd.underlying36 hf
    obtain ⟨y0, h0⟩ := trod_field (us := [u]) (hf 0 _ rfl) hxl (by decide) (by simp [Tryd.cells_ints, Value.cells])
    obtain ⟨y1, h1⟩ := trod_field (us := [v]) (hf 1 _ rfl) hxl (by decide) (by simp [Tryd.cells_ints, Tryd.cells_ports, Value.cells])
    obtain ⟨A, c, ids, e0, a1, a2, a3⟩ := open_slice_of Tryd.underlying33 Tryd.cells_int (by decide) open_ints_at h0
    obtain ⟨A2, c2, ports, e1, b1, b2, b3⟩ := open_slice_of Tryd.underlying34 Tryd.cells_links (by decide) (open_row_at Tryd.underlying61 Tryd.cells_link (by decide) open_link_at) h1
    obtain rfl : u = _ := by simpa using e0
    obtain rfl : v = _ := by simpa using e1
    exact ⟨⟨ids, ports⟩, A, c, A2, c2, rfl, a1, a2, a3, b1, b2, b3⟩
set_option maxRecDepth 100000 in
theorem open_prgV {r : Reach} {b0 : Nat} {v : Value} {d : DataW H} {p : List MemPlace} (h : DataW.Trod enc Tryd.prog w base spare held 32 v d p) (hv : Value.okWide Tryd.prog w r b0 32 v) : ∃ q : Prg, PrgV w v q := by
  obtain ⟨cs, rfl, hsz⟩ := okWide_struct Tryd.underlying32 hv
  obtain ⟨l⟩ := cs
  rw [Tryd.cells_prg] at hsz
  match l, hsz with
  | [s, u, v], _ =>
    obtain ⟨fuel, hf⟩ := h
    obtain ⟨xs, m, _, _, _, hxl, hf⟩ := DataW.trod_struct Tryd.underlying32 hf
    obtain ⟨nm, rfl⟩ := open_str_field Tryd.underlying9 (u := s) (hf 0 _ rfl) hxl (by decide) (by simp [Tryd.cells_str, Value.cells])
    obtain ⟨y0, h0⟩ := trod_field (us := [u]) (hf 1 _ rfl) hxl (by decide) (by simp [Tryd.cells_str, Tryd.cells_vars, Value.cells])
    obtain ⟨y1, h1⟩ := trod_field (us := [v]) (hf 2 _ rfl) hxl (by decide) (by simp [Tryd.cells_str, Tryd.cells_vars, Tryd.cells_rules, Value.cells])
    obtain ⟨A, c, vars, e0, a1, a2, a3⟩ := open_slice_of Tryd.underlying29 Tryd.cells_var (by decide) open_var_at h0
    obtain ⟨A2, c2, rules, e1, b1, b2, b3⟩ := open_slice_of Tryd.underlying30 Tryd.cells_rule (by decide) open_rule_at h1
    obtain rfl : u = _ := by simpa using e0
    obtain rfl : v = _ := by simpa using e1
    exact ⟨⟨nm, vars, rules⟩, A, c, A2, c2, rfl, a1, a2, a3, b1, b2, b3⟩
end
end Go.Proofs.YtgemlgpjbclonaaDoor

/- Transition systems among the arguments, opened. -/
namespace Go.Proofs.YtgemlgpjbclonaaDoor
open Go.ChangeShapes Go.WideShapes Go.ChangeAt Go.RowKit Go.Deep

theorem Tryd.cells_u32 : Tryd.prog.cellsOf 42 = 1 := by kernel_rfl
theorem Tryd.cells_u32s : Tryd.prog.cellsOf 22 = 1 := by kernel_rfl
theorem Tryd.cells_arc : Tryd.prog.cellsOf 44 = 2 := by kernel_rfl
theorem Tryd.cells_arcs : Tryd.prog.cellsOf 28 = 1 := by kernel_rfl
theorem Tryd.cells_arcss : Tryd.prog.cellsOf 23 = 1 := by kernel_rfl
theorem Tryd.cells_space : Tryd.prog.cellsOf 25 = 2 := by kernel_rfl

section
variable {H : Type} {enc : TypeId × Value → H} {w : World} {base : Nat} {spare : Nat → Bool} {held : Bool}
set_option maxRecDepth 100000 in
theorem open_mask_at : ∀ n cs y b o, (∀ j, j < 1 → w.cell? ⟨b, o + j, none⟩ = cs[j]?) → cs.length = 1 → DataW.trod enc Tryd.prog w base spare held n 42 cs = some y → ∃ x, MaskAt w b o x ∧ x < 4294967296 := by
  intro n cs y b o hat hl h
  obtain ⟨x, rfl, _, hwf⟩ := DataW.trod_int Tryd.underlying42 h
  obtain ⟨S, rfl, hS⟩ := u32_of_wf hwf
  refine ⟨S, ?_, hS⟩
  have := hat 0 (by omega)
  simpa [MaskAt] using this
set_option maxRecDepth 100000 in
theorem open_u32_field {m i n : Nat} {cs : List Value} {u : Value} {xs : List (DataW H × List MemPlace)}
    (h : DataW.trod enc Tryd.prog w base spare held m 42 cs = xs[i]?) (hl : xs.length = n) (hi : i < n) (hcs : cs = [u]) : ∃ S : Nat, u = .int .u32 (S : Int) ∧ S < 4294967296 := by
  obtain ⟨y, hy⟩ := trod_field h hl hi hcs
  obtain ⟨x, hx, _, hwf⟩ := DataW.trod_int Tryd.underlying42 hy
  obtain ⟨S, rfl, hS⟩ := u32_of_wf hwf
  exact ⟨S, by simpa using hx, hS⟩
set_option maxRecDepth 100000 in
theorem open_arc_at : ∀ n cs y b o, (∀ j, j < 2 → w.cell? ⟨b, o + j, none⟩ = cs[j]?) → cs.length = 2 → DataW.trod enc Tryd.prog w base spare held n 44 cs = some y → ∃ x, ArcAt w b o x ∧ x.1 < 4294967296 := by
  intro n cs y b o hat hl h
  obtain ⟨xs, m, _, _, _, hxl, hf⟩ := DataW.trod_struct Tryd.underlying44 h
  match cs, hl with
  | [u, v], _ =>
    obtain ⟨x0, rfl, h0⟩ := open_u32_field (u := u) (hf 0 _ rfl) hxl (by decide) (by simp [Tryd.cells_u32])
    obtain ⟨x1, rfl⟩ := open_int_field (u := v) (hf 1 _ rfl) hxl (by decide) (by simp [Tryd.cells_u32, Tryd.cells_int])
    exact ⟨⟨x0, x1⟩, ⟨by simpa using hat 0 (by omega), by simpa using hat 1 (by omega)⟩, h0⟩
set_option maxRecDepth 100000 in
theorem open_arcs_at : ∀ n cs y b o, (∀ j, j < 1 → w.cell? ⟨b, o + j, none⟩ = cs[j]?) → cs.length = 1 → DataW.trod enc Tryd.prog w base spare held n 28 cs = some y → ∃ x, RowAt 2 ArcAt w b o x ∧ ∀ z ∈ x, z.1 < 4294967296 := by
  intro n cs y b o hat hl h
  obtain ⟨A, n', c, xs, hcs, hr, hg, h1, h2⟩ := open_sliceR (E := ArcAt) (Good := fun x => x.1 < 4294967296) Tryd.underlying28 Tryd.cells_arc (by decide) open_arc_at h
  subst hcs
  have hn := hr.1
  subst hn
  exact ⟨xs, ⟨A, c, by simpa using hat 0 (by omega), hr, h1, h2⟩, hg⟩
set_option maxRecDepth 100000 in
theorem open_spaceV {r : Reach} {b0 : Nat} {v : Value} {d : DataW H} {p : List MemPlace} (h : DataW.Trod enc Tryd.prog w base spare held 25 v d p) (hv : Value.okWide Tryd.prog w r b0 25 v) : ∃ s : Spc, SpaceV w v s ∧ wfS s := by
  obtain ⟨cs, rfl, hsz⟩ := okWide_struct Tryd.underlying25 hv
  obtain ⟨l⟩ := cs
  rw [Tryd.cells_space] at hsz
  match l, hsz with
  | [u, v], _ =>
    obtain ⟨fuel, hf⟩ := h
    obtain ⟨xs, m, _, _, _, hxl, hf⟩ := DataW.trod_struct Tryd.underlying25 hf
    obtain ⟨y0, h0⟩ := trod_field (us := [u]) (hf 0 _ rfl) hxl (by decide) (by simp [Tryd.cells_u32s, Value.cells])
    obtain ⟨y1, h1⟩ := trod_field (us := [v]) (hf 1 _ rfl) hxl (by decide) (by simp [Tryd.cells_u32s, Tryd.cells_arcss, Value.cells])
    obtain ⟨A, n, c, es, e0, a1, ag, a2, a3⟩ := open_sliceR (E := MaskAt) (Good := fun x => x < 4294967296) Tryd.underlying22 Tryd.cells_u32 (by decide) open_mask_at h0
    obtain ⟨A2, n2, c2, rs, e1, b1, bg, b2, b3⟩ := open_sliceR (E := RowAt 2 ArcAt) (Good := fun x => ∀ z ∈ x, z.1 < 4294967296) Tryd.underlying23 Tryd.cells_arcs (by decide) open_arcs_at h1
    have hn := a1.1
    subst hn
    have hn2 := b1.1
    subst hn2
    obtain rfl : u = _ := by simpa using e0
    obtain rfl : v = _ := by simpa using e1
    exact ⟨⟨es, rs⟩, ⟨A, c, A2, c2, rfl, a1, b1, a2, a3, b2, b3⟩, ag, bg⟩
end
end Go.Proofs.YtgemlgpjbclonaaDoor

