/- Merged of: OpenT OpenG (see NOTES.md). -/
import Derived.Test.YtgemlgpjbclonaaGreatDoorZ07
import Derived.Test.YtgemlgpjbclonaaGreatDoorZ33
set_option linter.unusedSimpArgs false
set_option linter.unnecessarySimpa false
set_option linter.unusedVariables false

/- The arguments of layer 5 opened: slices of terms. -/
namespace Go.Proofs.YtgemlgpjbclonaaGreatDoor
open Go.ChangeShapes Go.WideShapes Go.ChangeAt Go.RowKit Go.Deep

theorem Tryz.cells_term : Tryz.prog.cellsOf 110 = 2 := by kernel_rfl
def GoodT (t : Term) : Prop := InI64 t.op ∧ InI64 t.arg

theorem trod_field {H : Type} {enc : TypeId × Value → H} {P : Program} {w : World} {base : Nat} {spare : Nat → Bool} {held : Bool} {m i n : Nat} {f : TypeId} {cs us : List Value} {xs : List (DataW H × List MemPlace)}
    (h : DataW.trod enc P w base spare held m f cs = xs[i]?) (hl : xs.length = n) (hi : i < n) (hcs : cs = us) : ∃ y, DataW.trod enc P w base spare held m f us = some y := by
  subst hcs
  rw [List.getElem?_eq_getElem (by omega)] at h
  exact ⟨_, h⟩

set_option maxRecDepth 100000 in
theorem open_term_at {H : Type} {enc : TypeId × Value → H} {w : World} {base : Nat} {spare : Nat → Bool} {held : Bool} : ∀ n cs y b o, (∀ j, j < 2 → w.cell? ⟨b, o + j, none⟩ = cs[j]?) → cs.length = 2 → DataW.trod enc Tryz.prog w base spare held n 110 cs = some y → ∃ x, TermAt w b o x ∧ GoodT x := by
  intro n cs y b o hat hl h
  obtain ⟨xs, m, _, _, _, hxl, hf⟩ := DataW.trod_struct Tryz.underlying110 h
  match cs, hl with
  | [u, v], _ =>
    obtain ⟨y0, h0⟩ := trod_field (us := [u]) (hf 0 _ rfl) hxl (by decide) (by simp [Tryz.cells_int])
    obtain ⟨y1, h1⟩ := trod_field (us := [v]) (hf 1 _ rfl) hxl (by decide) (by simp [Tryz.cells_int])
    obtain ⟨x0, hx0, _, wf0⟩ := DataW.trod_int Tryz.underlying3 h0
    obtain ⟨x1, hx1, _, wf1⟩ := DataW.trod_int Tryz.underlying3 h1
    simp at hx0 hx1
    subst hx0; subst hx1
    exact ⟨⟨x0, x1⟩, ⟨by simpa using hat 0 (by omega), by simpa using hat 1 (by omega)⟩, inI64_of_wf wf0, inI64_of_wf wf1⟩

set_option maxRecDepth 100000 in
theorem open_termsR {H : Type} {enc : TypeId × Value → H} {w : World} {base : Nat} {spare : Nat → Bool} {held : Bool} {r : Reach} {b0 : Nat} {v : Value} {d : DataW H} {p : List MemPlace}
    (h : DataW.Trod enc Tryz.prog w base spare held 86 v d p) (hv : Value.okWide Tryz.prog w r b0 86 v) :
    ∃ (A : Option Addr) (n c : Nat) (es : List Term), v = .slice A n c ∧ TermsR w A n es ∧ (∀ t ∈ es, GoodT t) ∧ n ≤ c ∧ c ≤ maxLen := by
  obtain ⟨a, l, c', rfl⟩ := okWide_slice Tryz.underlying86 hv
  obtain ⟨fuel, h⟩ := h
  obtain ⟨A, n, c, xs, hcs, hr, hg, h1, h2⟩ := open_sliceR (E := TermAt) (Good := GoodT) Tryz.underlying86 Tryz.cells_term (by decide) open_term_at h
  exact ⟨A, n, c, xs, by simpa [Value.cells] using hcs, hr, hg, h1, h2⟩
set_option maxRecDepth 100000 in
theorem open_termR {H : Type} {enc : TypeId × Value → H} {w : World} {base : Nat} {spare : Nat → Bool} {held : Bool} {r : Reach} {b0 : Nat} {v : Value} {d : DataW H} {p : List MemPlace}
    (h : DataW.Trod enc Tryz.prog w base spare held 110 v d p) (hv : Value.okWide Tryz.prog w r b0 110 v) :
    ∃ t : Term, v = .agg #[.int .i64 t.op, .int .i64 t.arg] ∧ GoodT t := by
  obtain ⟨cs, rfl, hsz⟩ := okWide_struct Tryz.underlying110 hv
  obtain ⟨l⟩ := cs
  rw [Tryz.cells_term] at hsz
  match l, hsz with
  | [u, v], _ =>
    obtain ⟨fuel, hf⟩ := h
    obtain ⟨xs, m, _, _, _, hxl, hf⟩ := DataW.trod_struct Tryz.underlying110 hf
    obtain ⟨y0, h0⟩ := trod_field (us := [u]) (hf 0 _ rfl) hxl (by decide) (by simp [Tryz.cells_int, Value.cells])
    obtain ⟨y1, h1⟩ := trod_field (us := [v]) (hf 1 _ rfl) hxl (by decide) (by simp [Tryz.cells_int, Value.cells])
    obtain ⟨x0, hx0, _, wf0⟩ := DataW.trod_int Tryz.underlying3 h0
    obtain ⟨x1, hx1, _, wf1⟩ := DataW.trod_int Tryz.underlying3 h1
    simp at hx0 hx1
    subst hx0; subst hx1
    exact ⟨⟨x0, x1⟩, rfl, inI64_of_wf wf0, inI64_of_wf wf1⟩
end Go.Proofs.YtgemlgpjbclonaaGreatDoor

/- Graphs, programs and configurations among the arguments, opened. -/
namespace Go.Proofs.YtgemlgpjbclonaaGreatDoor
open Go.ChangeShapes Go.WideShapes Go.ChangeAt Go.RowKit Go.Deep

theorem Tryz.cells_ints : Tryz.prog.cellsOf 26 = 1 := by kernel_rfl
theorem Tryz.cells_terms : Tryz.prog.cellsOf 86 = 1 := by kernel_rfl
theorem Tryz.cells_str : Tryz.prog.cellsOf 9 = 1 := by kernel_rfl
theorem Tryz.cells_link : Tryz.prog.cellsOf 112 = 2 := by kernel_rfl
theorem Tryz.cells_links : Tryz.prog.cellsOf 93 = 1 := by kernel_rfl
theorem Tryz.cells_ports : Tryz.prog.cellsOf 27 = 1 := by kernel_rfl
theorem Tryz.cells_var : Tryz.prog.cellsOf 85 = 6 := by kernel_rfl
theorem Tryz.cells_vars : Tryz.prog.cellsOf 22 = 1 := by kernel_rfl
theorem Tryz.cells_set : Tryz.prog.cellsOf 92 = 2 := by kernel_rfl
theorem Tryz.cells_sets : Tryz.prog.cellsOf 87 = 1 := by kernel_rfl
theorem Tryz.cells_rule : Tryz.prog.cellsOf 89 = 3 := by kernel_rfl
theorem Tryz.cells_rules : Tryz.prog.cellsOf 23 = 1 := by kernel_rfl
theorem Tryz.cells_prg : Tryz.prog.cellsOf 25 = 3 := by kernel_rfl
theorem Tryz.cells_graph : Tryz.prog.cellsOf 29 = 2 := by kernel_rfl

section
variable {H : Type} {enc : TypeId × Value → H} {w : World} {base : Nat} {spare : Nat → Bool} {held : Bool}
def Opens (enc : TypeId × Value → H) (w : World) (base : Nat) (spare : Nat → Bool) (held : Bool) {α : Type} (e : TypeId) (size : Nat) (E : World → Nat → Nat → α → Prop) : Prop :=
  ∀ n cs y b o, (∀ j, j < size → w.cell? ⟨b, o + j, none⟩ = cs[j]?) → cs.length = size → DataW.trod enc Tryz.prog w base spare held n e cs = some y → ∃ x, E w b o x ∧ True
set_option maxRecDepth 100000 in
theorem open_row_at {α : Type} [Inhabited α] {t e : TypeId} {size : Nat} {E : World → Nat → Nat → α → Prop} (ht : Tryz.prog.underlying t = some (.slice e)) (hC : Tryz.prog.cellsOf e = size) (hsz : 0 < size)
    (hE : Opens enc w base spare held e size E) : Opens enc w base spare held t 1 (RowAt size E) := by
  intro n cs y b o hat hl h
  obtain ⟨A, n', c, xs, hcs, hr, _, h1, h2⟩ := open_sliceR (E := E) (Good := fun _ => True) ht hC hsz hE h
  subst hcs
  have hn := hr.1
  subst hn
  exact ⟨xs, ⟨A, c, by simpa using hat 0 (by omega), hr, h1, h2⟩, trivial⟩
set_option maxRecDepth 100000 in
theorem open_ints_at : Opens enc w base spare held 3 1 IntAt := fun n cs y b o h1 h2 h3 => by
  obtain ⟨x, hx, _⟩ := open_int_at Tryz.underlying3 n cs y b o h1 h2 h3
  exact ⟨x, hx, trivial⟩
set_option maxRecDepth 100000 in
theorem open_terms_at : Opens enc w base spare held 110 2 TermAt := fun n cs y b o h1 h2 h3 => by
  obtain ⟨x, hx, _⟩ := open_term_at n cs y b o h1 h2 h3
  exact ⟨x, hx, trivial⟩
/-- One field of a struct, of one cell. -/
theorem open_field {α : Type} {f : TypeId} {k : Nat} {E : World → Nat → Nat → α → Prop} (hE : Opens enc w base spare held f 1 E) {m i n : Nat} {cs : List Value} {u : Value} {xs : List (DataW H × List MemPlace)} {b o : Nat}
    (h : DataW.trod enc Tryz.prog w base spare held m f cs = xs[i]?) (hl : xs.length = n) (hi : i < n) (hcs : cs = [u]) (hat : w.cell? ⟨b, o + k, none⟩ = some u) : ∃ x, E w b (o + k) x := by
  obtain ⟨y, hy⟩ := trod_field h hl hi hcs
  obtain ⟨x, hx, _⟩ := hE m [u] y b (o + k) (fun j hj => by
    obtain rfl : j = 0 := by omega
    exact hat) rfl hy
  exact ⟨x, hx⟩
set_option maxRecDepth 100000 in
theorem open_str_field {f : TypeId} (hf : Tryz.prog.underlying f = some .string) {m i n : Nat} {cs : List Value} {u : Value} {xs : List (DataW H × List MemPlace)}
    (h : DataW.trod enc Tryz.prog w base spare held m f cs = xs[i]?) (hl : xs.length = n) (hi : i < n) (hcs : cs = [u]) : ∃ s, u = .string s := by
  obtain ⟨y, hy⟩ := trod_field h hl hi hcs
  obtain ⟨s, hc, _, _⟩ := DataW.trod_string hf hy
  exact ⟨s, by simpa using hc⟩
set_option maxRecDepth 100000 in
theorem open_int_field {m i n : Nat} {cs : List Value} {u : Value} {xs : List (DataW H × List MemPlace)}
    (h : DataW.trod enc Tryz.prog w base spare held m 3 cs = xs[i]?) (hl : xs.length = n) (hi : i < n) (hcs : cs = [u]) : ∃ x, u = .int .i64 x := by
  obtain ⟨y, hy⟩ := trod_field h hl hi hcs
  obtain ⟨x, hx, _, _⟩ := DataW.trod_int Tryz.underlying3 hy
  exact ⟨x, by simpa using hx⟩
set_option maxRecDepth 100000 in
theorem open_link_at : Opens enc w base spare held 112 2 LinkAt := by
  intro n cs y b o hat hl h
  obtain ⟨xs, m, _, _, _, hxl, hf⟩ := DataW.trod_struct Tryz.underlying112 h
  match cs, hl with
  | [u, v], _ =>
    obtain ⟨x0, rfl⟩ := open_int_field (u := u) (hf 0 _ rfl) hxl (by decide) (by simp [Tryz.cells_int])
    obtain ⟨x1, rfl⟩ := open_int_field (u := v) (hf 1 _ rfl) hxl (by decide) (by simp [Tryz.cells_int])
    exact ⟨⟨x0, x1⟩, ⟨by simpa using hat 0 (by omega), by simpa using hat 1 (by omega)⟩, trivial⟩
set_option maxRecDepth 100000 in
theorem open_var_at : Opens enc w base spare held 85 6 VarAt := by
  intro n cs y b o hat hl h
  obtain ⟨xs, m, _, _, _, hxl, hf⟩ := DataW.trod_struct Tryz.underlying85 h
  match cs, hl with
  | [u0, u1, u2, u3, u4, u5], _ =>
    obtain ⟨s, rfl⟩ := open_str_field Tryz.underlying9 (u := u0) (hf 0 _ rfl) hxl (by decide) (by simp [Tryz.cells_str])
    obtain ⟨x1, rfl⟩ := open_int_field (u := u1) (hf 1 _ rfl) hxl (by decide) (by simp [Tryz.cells_int])
    obtain ⟨x2, rfl⟩ := open_int_field (u := u2) (hf 2 _ rfl) hxl (by decide) (by simp [Tryz.cells_int])
    obtain ⟨x3, rfl⟩ := open_int_field (u := u3) (hf 3 _ rfl) hxl (by decide) (by simp [Tryz.cells_int])
    obtain ⟨x4, rfl⟩ := open_int_field (u := u4) (hf 4 _ rfl) hxl (by decide) (by simp [Tryz.cells_int])
    obtain ⟨x5, rfl⟩ := open_int_field (u := u5) (hf 5 _ rfl) hxl (by decide) (by simp [Tryz.cells_int])
    exact ⟨⟨s, x1, x2, x3, x4, x5⟩, ⟨by simpa using hat 0 (by omega), by simpa using hat 1 (by omega), by simpa using hat 2 (by omega), by simpa using hat 3 (by omega), by simpa using hat 4 (by omega), by simpa using hat 5 (by omega)⟩, trivial⟩
set_option maxRecDepth 100000 in
theorem open_set_at : Opens enc w base spare held 92 2 SetAt := by
  intro n cs y b o hat hl h
  obtain ⟨xs, m, _, _, _, hxl, hf⟩ := DataW.trod_struct Tryz.underlying92 h
  match cs, hl with
  | [u0, u1], _ =>
    obtain ⟨x0, rfl⟩ := open_int_field (u := u0) (hf 0 _ rfl) hxl (by decide) (by simp [Tryz.cells_int])
    obtain ⟨x1, h1⟩ := open_field (k := 1) (u := u1) (b := b) (o := o) (open_row_at Tryz.underlying86 Tryz.cells_term (by decide) open_terms_at) (hf 1 _ rfl) hxl (by decide) (by simp [Tryz.cells_terms]) (by simpa using hat 1 (by omega))
    exact ⟨⟨x0, x1⟩, ⟨by simpa using hat 0 (by omega), h1⟩, trivial⟩
set_option maxRecDepth 100000 in
theorem open_rule_at : Opens enc w base spare held 89 3 RuleAt := by
  intro n cs y b o hat hl h
  obtain ⟨xs, m, _, _, _, hxl, hf⟩ := DataW.trod_struct Tryz.underlying89 h
  match cs, hl with
  | [u0, u1, u2], _ =>
    obtain ⟨s, rfl⟩ := open_str_field Tryz.underlying9 (u := u0) (hf 0 _ rfl) hxl (by decide) (by simp [Tryz.cells_str])
    obtain ⟨x1, h1⟩ := open_field (k := 1) (u := u1) (b := b) (o := o) (open_row_at Tryz.underlying86 Tryz.cells_term (by decide) open_terms_at) (hf 1 _ rfl) hxl (by decide) (by simp [Tryz.cells_terms]) (by simpa using hat 1 (by omega))
    obtain ⟨x2, h2⟩ := open_field (k := 2) (u := u2) (b := b) (o := o) (open_row_at Tryz.underlying87 Tryz.cells_set (by decide) open_set_at) (hf 2 _ rfl) hxl (by decide) (by simp [Tryz.cells_sets]) (by simpa using hat 2 (by omega))
    exact ⟨⟨s, x1, x2⟩, ⟨by simpa using hat 0 (by omega), h1, h2⟩, trivial⟩

set_option maxRecDepth 100000 in
theorem open_slice_of {α : Type} [Inhabited α] {t e : TypeId} {size : Nat} {E : World → Nat → Nat → α → Prop} (ht : Tryz.prog.underlying t = some (.slice e)) (hC : Tryz.prog.cellsOf e = size) (hsz : 0 < size)
    (hE : Opens enc w base spare held e size E) {fuel : Nat} {cs : List Value} {y : DataW H × List MemPlace} (h : DataW.trod enc Tryz.prog w base spare held fuel t cs = some y) :
    ∃ (A : Option Addr) (c : Nat) (xs : List α), cs = [.slice A xs.length c] ∧ SliceR size E w A xs.length xs ∧ xs.length ≤ c ∧ c ≤ maxLen := by
  obtain ⟨A, n', c, xs, hcs, hr, _, h1, h2⟩ := open_sliceR (E := E) (Good := fun _ => True) ht hC hsz hE h
  have hn := hr.1
  subst hn
  exact ⟨A, c, xs, hcs, hr, h1, h2⟩
set_option maxRecDepth 100000 in
theorem open_confV {r : Reach} {b0 : Nat} {v : Value} {d : DataW H} {p : List MemPlace} (h : DataW.Trod enc Tryz.prog w base spare held 50 v d p) (hv : Value.okWide Tryz.prog w r b0 50 v) : ∃ c : Config, ConfV w v c := by
  obtain ⟨a, l, c', rfl⟩ := okWide_slice Tryz.underlying50 hv
  obtain ⟨fuel, h⟩ := h
  obtain ⟨A, c, xs, hcs, hr, h1, h2⟩ := open_slice_of Tryz.underlying50 Tryz.cells_ints (by decide) (open_row_at Tryz.underlying26 Tryz.cells_int (by decide) open_ints_at) h
  exact ⟨xs, A, c, by simpa [Value.cells] using hcs, hr, h1, h2⟩
set_option maxRecDepth 100000 in
theorem open_graphV {r : Reach} {b0 : Nat} {v : Value} {d : DataW H} {p : List MemPlace} (h : DataW.Trod enc Tryz.prog w base spare held 29 v d p) (hv : Value.okWide Tryz.prog w r b0 29 v) : ∃ g : Graph, GraphV w v g := by
  obtain ⟨cs, rfl, hsz⟩ := okWide_struct Tryz.underlying29 hv
  obtain ⟨l⟩ := cs
  rw [Tryz.cells_graph] at hsz
  match l, hsz with
  | [u, v], _ =>
    obtain ⟨fuel, hf⟩ := h
    obtain ⟨xs, m, _, _, _, hxl, hf⟩ := DataW.trod_struct Tryz.underlying29 hf
    obtain ⟨y0, h0⟩ := trod_field (us := [u]) (hf 0 _ rfl) hxl (by decide) (by simp [Tryz.cells_ints, Value.cells])
    obtain ⟨y1, h1⟩ := trod_field (us := [v]) (hf 1 _ rfl) hxl (by decide) (by simp [Tryz.cells_ints, Tryz.cells_ports, Value.cells])
    obtain ⟨A, c, ids, e0, a1, a2, a3⟩ := open_slice_of Tryz.underlying26 Tryz.cells_int (by decide) open_ints_at h0
    obtain ⟨A2, c2, ports, e1, b1, b2, b3⟩ := open_slice_of Tryz.underlying27 Tryz.cells_links (by decide) (open_row_at Tryz.underlying93 Tryz.cells_link (by decide) open_link_at) h1
    obtain rfl : u = _ := by simpa using e0
    obtain rfl : v = _ := by simpa using e1
    exact ⟨⟨ids, ports⟩, A, c, A2, c2, rfl, a1, a2, a3, b1, b2, b3⟩
set_option maxRecDepth 100000 in
theorem open_prgV {r : Reach} {b0 : Nat} {v : Value} {d : DataW H} {p : List MemPlace} (h : DataW.Trod enc Tryz.prog w base spare held 25 v d p) (hv : Value.okWide Tryz.prog w r b0 25 v) : ∃ q : Prg, PrgV w v q := by
  obtain ⟨cs, rfl, hsz⟩ := okWide_struct Tryz.underlying25 hv
  obtain ⟨l⟩ := cs
  rw [Tryz.cells_prg] at hsz
  match l, hsz with
  | [s, u, v], _ =>
    obtain ⟨fuel, hf⟩ := h
    obtain ⟨xs, m, _, _, _, hxl, hf⟩ := DataW.trod_struct Tryz.underlying25 hf
    obtain ⟨nm, rfl⟩ := open_str_field Tryz.underlying9 (u := s) (hf 0 _ rfl) hxl (by decide) (by simp [Tryz.cells_str, Value.cells])
    obtain ⟨y0, h0⟩ := trod_field (us := [u]) (hf 1 _ rfl) hxl (by decide) (by simp [Tryz.cells_str, Tryz.cells_vars, Value.cells])
    obtain ⟨y1, h1⟩ := trod_field (us := [v]) (hf 2 _ rfl) hxl (by decide) (by simp [Tryz.cells_str, Tryz.cells_vars, Tryz.cells_rules, Value.cells])
    obtain ⟨A, c, vars, e0, a1, a2, a3⟩ := open_slice_of Tryz.underlying22 Tryz.cells_var (by decide) open_var_at h0
    obtain ⟨A2, c2, rules, e1, b1, b2, b3⟩ := open_slice_of Tryz.underlying23 Tryz.cells_rule (by decide) open_rule_at h1
    obtain rfl : u = _ := by simpa using e0
    obtain rfl : v = _ := by simpa using e1
    exact ⟨⟨nm, vars, rules⟩, A, c, A2, c2, rfl, a1, a2, a3, b1, b2, b3⟩
end
end Go.Proofs.YtgemlgpjbclonaaGreatDoor

