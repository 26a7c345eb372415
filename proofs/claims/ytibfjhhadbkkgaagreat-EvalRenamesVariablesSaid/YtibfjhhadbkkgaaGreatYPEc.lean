/- Merged of: PEc (see NOTES.md). -/
import Derived.Test.YtibfjhhadbkkgaaGreatZ20
import Derived.Test.YtibfjhhadbkkgaaGreatYP05e
set_option linter.unusedSimpArgs false
set_option linter.unnecessarySimpa false
set_option linter.unusedVariables false

/- Plain law of evaluation: renamed variables. -/
namespace Go.Proofs.YtibfjhhadbkkgaaGreat

def swapG {α : Type} (z : α) (l : List α) (i k : Nat) : List α := (l.set i (l.getD k z)).set k (l.getD i z)
def sg (i k j : Nat) : Nat := if k = j then i else if i = j then k else j
theorem sg_lt {i k j n : Nat} (hi : i < n) (hk : k < n) (hj : j < n) : sg i k j < n := by unfold sg; split; exact hi; split; exact hk; exact hj
theorem sg_sg (i k j : Nat) : sg i k (sg i k j) = j := by
  unfold sg
  by_cases h1 : k = j
  · subst h1
    rw [if_pos rfl]
    by_cases h2 : k = i
    · subst h2; rw [if_pos rfl]
    · rw [if_neg h2, if_pos rfl]
  · rw [if_neg h1]
    by_cases h2 : i = j
    · subst h2; rw [if_pos rfl, if_pos rfl]
    · rw [if_neg h2, if_neg h1, if_neg h2]
theorem swapG_length {α : Type} (z : α) (l : List α) (i k : Nat) : (swapG z l i k).length = l.length := by simp [swapG]
theorem swapG_get {α : Type} {z : α} {l : List α} {i k : Nat} (hi : i < l.length) (hk : k < l.length) (j : Nat) : (swapG z l i k)[j]? = l[sg i k j]? := by
  unfold swapG sg
  rw [List.getElem?_set, List.getElem?_set, List.length_set]
  split
  · rw [getD_eq hi, List.getElem?_eq_getElem hi]
  · split
    · rw [getD_eq hk, List.getElem?_eq_getElem hk]
    · rfl
theorem swapG_getD {α : Type} {z y : α} {l : List α} {i k : Nat} (hi : i < l.length) (hk : k < l.length) (j : Nat) : (swapG z l i k).getD j y = l.getD (sg i k j) y := by
  rw [List.getD_eq_getElem?_getD, List.getD_eq_getElem?_getD, swapG_get hi hk]
theorem swapG_mem {α : Type} {z : α} {l : List α} {i k : Nat} (hi : i < l.length) (hk : k < l.length) {x : α} (hx : x ∈ swapG z l i k) : x ∈ l := by
  obtain ⟨j, hj, rfl⟩ := List.getElem_of_mem hx
  have := swapG_get (z := z) hi hk j
  rw [List.getElem?_eq_getElem hj] at this
  exact List.mem_of_getElem? this.symm
theorem swapG_map {α β : Type} (f : α → β) {z : α} {y : β} {l : List α} {i k : Nat} (hi : i < l.length) (hk : k < l.length) : (swapG z l i k).map f = swapG y (l.map f) i k := by
  apply List.ext_getElem?
  intro j
  rw [List.getElem?_map, swapG_get hi hk, swapG_get (by simpa using hi) (by simpa using hk), List.getElem?_map]
theorem swapG_nodup {α : Type} {z : α} {l : List α} {i k : Nat} (hi : i < l.length) (hk : k < l.length) (hn : l.Nodup) : (swapG z l i k).Nodup := by
  rw [List.nodup_iff_pairwise_ne, List.pairwise_iff_getElem] at *
  intro a b ha hb hab he
  have e1 := swapG_get (z := z) hi hk a
  have e2 := swapG_get (z := z) hi hk b
  rw [swapG_length] at ha hb
  rw [List.getElem?_eq_getElem (by rw [swapG_length]; exact ha), List.getElem?_eq_getElem (sg_lt hi hk ha)] at e1
  rw [List.getElem?_eq_getElem (by rw [swapG_length]; exact hb), List.getElem?_eq_getElem (sg_lt hi hk hb)] at e2
  simp only [Option.some.injEq] at e1 e2
  rw [e1, e2] at he
  have hne : sg i k a ≠ sg i k b := fun h => by
    have := congrArg (sg i k) h
    rw [sg_sg, sg_sg] at this
    omega
  rcases Nat.lt_or_gt_of_ne hne with h | h
  · exact hn _ _ (sg_lt hi hk ha) (sg_lt hi hk hb) h he
  · exact hn _ _ (sg_lt hi hk hb) (sg_lt hi hk ha) h he.symm

/-- A program over renamed variables, without rules; a configuration and an expression likewise. -/
def renP (p : Prg) (i k : Nat) : Prg := ⟨p.name, swapG default p.vars i k, []⟩
def renC (c : Config) (i k : Nat) : Config := c.map fun s => swapG 0 s i k
def idM (n : Nat) : List Int := (List.range n).map fun (x : Nat) => (x : Int)
def renM (n i k : Nat) : List Int := ((idM n).set i (k : Int)).set k (i : Int)
theorem renM_length (n i k : Nat) : (renM n i k).length = n := by simp [renM, idM]
theorem renM_get {n i k j : Nat} (hi : i < n) (hk : k < n) (hj : j < n) : (renM n i k).getD j 0 = (sg i k j : Int) := by
  unfold renM idM sg
  rw [List.getD_eq_getElem?_getD, List.getElem?_set, List.getElem?_set, List.length_set, List.length_map, List.length_range]
  split
  · rfl
  · split
    · rfl
    · rw [List.getElem?_map, List.getElem?_range hj]; rfl
theorem ren_check {p : Prg} (h : checkF p = 0) {i k : Nat} (hi : i < p.vars.length) (hk : k < p.vars.length) : checkF (renP p i k) = 0 := by
  obtain ⟨h1, h2, h3, h4, h5, _, _⟩ := check_numbers h
  have e1 : (renP p i k).vars = swapG default p.vars i k := rfl
  have e2 : (renP p i k).rules = [] := rfl
  unfold checkF
  rw [e1, e2, swapG_length, if_neg (by simp; omega)]
  have hn : namedF (renP p i k) = true := by
    unfold namedF at h5 ⊢
    rw [e1, e2]
    simp only [Bool.and_eq_true] at h5 ⊢
    refine ⟨⟨h5.1.1, ?_⟩, by simp [namesF]⟩
    obtain ⟨a1, a2⟩ := (namesF_iff _).1 h5.1.2
    rw [namesF_iff, swapG_map Var.name (y := default) hi hk]
    exact ⟨fun s hs => a1 s (swapG_mem (by simpa using hi) (by simpa using hk) hs), swapG_nodup (by simpa using hi) (by simpa using hk) a2⟩
  have hnum : (swapG default p.vars i k).all numbersF = true := by
    rw [List.all_eq_true] at *
    exact fun x hx => h1 x (swapG_mem hi hk hx)
  rw [hn, if_neg (by decide), hnum, if_neg (by decide)]
  simp
theorem ren_fits {p : Prg} {g : Graph} (h : fitsF p g = 0) {i k : Nat} (hi : i < p.vars.length) (hk : k < p.vars.length) : fitsF (renP p i k) g = 0 := by
  obtain ⟨h1, h2, h3⟩ := fits_zero h
  have e1 : (renP p i k).vars = swapG default p.vars i k := rfl
  have hf : (swapG default p.vars i k).all (fitsVar g) = true := by
    rw [List.all_eq_true] at *
    exact fun x hx => h3 x (swapG_mem hi hk hx)
  unfold fitsF
  rw [ren_check h1 hi hk, if_neg (by simp), (graphB_iff g).2 h2, if_neg (by decide), e1, hf, if_neg (by decide)]
theorem ren_row (p : Prg) (g : Graph) (v : Nat) {i k : Nat} (hi : i < p.vars.length) (hk : k < p.vars.length) : rowF (renP p i k) g v = swapG (0, 0) (rowF p g v) i k := by
  show (swapG default p.vars i k).map (fun x => boundsF x g v) = _
  rw [swapG_map (y := (0, 0)) (fun x => boundsF x g v) hi hk]; rfl
theorem renC_length (c : Config) (i k : Nat) : (renC c i k).length = c.length := by simp [renC]
theorem renC_at {c : Config} {i k v : Nat} (hv : v < c.length) : (renC c i k).getD v [] = swapG 0 (c.getD v []) i k := by
  rw [getD_eq (by rw [renC_length]; exact hv), getD_eq hv]; simp [renC]
theorem state_swap {row : List (Int × Int)} {s : List Int} {i k : Nat} (hi : i < row.length) (hk : k < row.length) (h : stateB row s = true) : stateB (swapG (0, 0) row i k) (swapG 0 s i k) = true := by
  obtain ⟨h1, h2⟩ := stateB_iff.1 h
  rw [stateB_iff]
  refine ⟨by rw [swapG_length, swapG_length, h1], fun j a b => ?_⟩
  have e1 := swapG_get (z := (0, 0)) hi hk j
  have e2 := swapG_get (z := (0 : Int)) (show i < s.length by omega) (show k < s.length by omega) j
  rw [List.getElem?_eq_getElem b] at e1
  rw [List.getElem?_eq_getElem a] at e2
  rw [swapG_length] at a b
  have hj := sg_lt hi hk b
  rw [List.getElem?_eq_getElem hj] at e1
  rw [List.getElem?_eq_getElem (by omega)] at e2
  simp only [Option.some.injEq] at e1 e2
  rw [e1, e2]
  exact h2 _ (by omega) hj
theorem ren_mem {p : Prg} {g : Graph} {c : Config} (h : memF p g c = 0) {i k : Nat} (hi : i < p.vars.length) (hk : k < p.vars.length) : memF (renP p i k) g (renC c i k) = 0 := by
  obtain ⟨h1, h2⟩ := mem_zero h
  have h3 : confB (tableF (renP p i k) g) (renC c i k) = true := by
    rw [confB_iff]
    have hl : (tableF (renP p i k) g).length = (tableF p g).length := by rw [tableF_length, tableF_length]
    refine ⟨by rw [renC_length, hl]; exact (confB_iff.1 h2).1, fun v a b => ?_⟩
    rw [tableF_at, ren_row _ _ _ hi hk]
    rw [renC_length] at a
    have := state_swap (i := i) (k := k) (by rw [rowF_length]; exact hi) (by rw [rowF_length]; exact hk) (conf_node h a)
    rw [← renC_at a, getD_eq (by rw [renC_length]; exact a)] at this
    exact this
  unfold memF
  rw [ren_fits h1 hi hk, if_neg (by simp), h3]; simp

/-! ### Expressions -/
def Ex.ren (m : List Int) : Ex → Ex
  | .leaf t => .leaf (renTerm m t)
  | .un t a => .un (renTerm m t) (a.ren m)
  | .bin t a b => .bin (renTerm m t) (a.ren m) (b.ren m)
  | .tri t a b c => .tri (renTerm m t) (a.ren m) (b.ren m) (c.ren m)
theorem Ex.ren_terms (m : List Int) (x : Ex) : (x.ren m).terms = x.terms.map (renTerm m) := by
  induction x with
  | leaf t => rfl
  | un t a ih => simp [Ex.ren, Ex.terms, ih]
  | bin t a b iha ihb => simp [Ex.ren, Ex.terms, iha, ihb]
  | tri t a b c iha ihb ihc => simp [Ex.ren, Ex.terms, iha, ihb, ihc]
theorem Ex.ren_ok (m : List Int) {x : Ex} (h : x.ok) : (x.ren m).ok := by
  induction x with
  | leaf t => simpa [Ex.ren, Ex.ok, renTerm_op] using h
  | un t a ih => exact ⟨by rw [renTerm_op]; exact h.1, ih h.2⟩
  | bin t a b iha ihb => exact ⟨by rw [renTerm_op]; exact h.1, iha h.2.1, ihb h.2.2⟩
  | tri t a b c iha ihb ihc => exact ⟨by rw [renTerm_op]; exact h.1, iha h.2.1, ihb h.2.2.1, ihc h.2.2.2⟩
/-- What a term that is no leaf of a variable keeps, and where the argument of the others goes. -/
theorem ren_arg {n i k : Nat} (hi : i < n) (hk : k < n) {t : Term} (ha : argF t n = true) (hop : t.op = 5 ∨ t.op = 12) : ∃ a : Nat, t.arg = (a : Int) ∧ a < n ∧ renTerm (renM n i k) t = ⟨t.op, (sg i k a : Int)⟩ := by
  obtain ⟨a1, a2⟩ := arg_var ha hop
  obtain ⟨a, ha'⟩ := Int.eq_ofNat_of_zero_le a1
  have hal : a < n := by omega
  refine ⟨a, ha', hal, ?_⟩
  unfold renTerm
  rw [if_pos hop, ha', Int.toNat_natCast, renM_get hi hk hal]
theorem ren_other (m : List Int) {t : Term} (hop : ¬ (t.op = 5 ∨ t.op = 12)) : renTerm m t = t := by unfold renTerm; rw [if_neg hop]
theorem ren_argF {n i k : Nat} (hi : i < n) (hk : k < n) {t : Term} (ha : argF t n = true) : argF (renTerm (renM n i k) t) n = true := by
  by_cases hop : t.op = 5 ∨ t.op = 12
  · obtain ⟨a, h1, h2, h3⟩ := ren_arg hi hk ha hop
    rw [h3]
    have := sg_lt hi hk h2
    unfold argF
    rw [if_neg (by show ¬ t.op = 1; omega), if_pos (by exact hop)]
    simp; omega
  · rw [ren_other _ hop]; exact ha
theorem ren_valid {n i k : Nat} (hi : i < n) (hk : k < n) {es : List Term} (hv : validF es n = true) : validF (es.map (renTerm (renM n i k))) n = true := by
  obtain ⟨h1, h2, h3, h4, h5⟩ := (validF_parts es n).1 hv
  refine (validF_parts _ _).2 ⟨by simpa using h1, full_of_end ?_, ?_, ?_, ?_⟩
  · rw [endF_map _ (renTerm_op _), full_end h2, List.length_map]
  · intro t ht
    obtain ⟨u, hu, rfl⟩ := List.mem_map.1 ht
    exact ren_argF hi hk (h3 u hu)
  · unfold depthF; rw [levelsF_map _ _ (renTerm_op _)]; exact h4
  · unfold nestF; rw [levelsF_map _ _ (renTerm_op _)]; exact h5
theorem ren_kind {kinds : List Int} {i k : Nat} (hi : i < kinds.length) (hk : k < kinds.length) {x : Ex} (ha : ∀ t ∈ x.terms, argF t kinds.length = true) : ∀ {b : Bool}, kindF (swapG 0 kinds i k) b (x.ren (renM kinds.length i k)) = kindF kinds b x := by
  induction x with
  | leaf t =>
    intro b
    simp only [Ex.ren, kindF, renTerm_op]
    split
    · rfl
    · have hat := ha t (by simp [Ex.terms])
      by_cases hop : t.op = 5 ∨ t.op = 12
      · obtain ⟨a, h1, h2, h3⟩ := ren_arg hi hk hat hop
        rw [h3]
        unfold leafK
        dsimp only
        rw [if_neg (by omega), if_neg (by omega), if_pos hop, if_neg (by omega), if_neg (by omega), if_pos hop, h1, Int.toNat_natCast, Int.toNat_natCast, swapG_getD hi hk, sg_sg]
      · rw [ren_other _ hop]
        unfold leafK
        rw [if_neg hop, if_neg hop]
  | un t a ih =>
    intro b
    simp only [Ex.ren, kindF, renTerm_op]
    rw [ih (fun s hs => ha s (by simp [Ex.terms, hs]))]
  | bin t x y ihx ihy =>
    intro b
    simp only [Ex.ren, kindF, renTerm_op]
    rw [ihx (fun s hs => ha s (by simp [Ex.terms, hs])), ihy (fun s hs => ha s (by simp [Ex.terms, hs]))]
  | tri t x y z ihx ihy ihz =>
    intro b
    simp only [Ex.ren, kindF]
    rw [ihx (fun s hs => ha s (by simp [Ex.terms, hs])), ihy (fun s hs => ha s (by simp [Ex.terms, hs])), ihz (fun s hs => ha s (by simp [Ex.terms, hs]))]
theorem ren_cell {c : Config} {n i k a : Nat} (hc : ∀ u, u < c.length → (c.getD u []).length = n) (hi : i < n) (hk : k < n) (u : Nat) : ((renC c i k).getD u []).getD (sg i k a) 0 = (c.getD u []).getD a 0 := by
  rcases Nat.lt_or_ge u c.length with hu | hu
  · rw [renC_at hu, swapG_getD (by rw [hc u hu]; exact hi) (by rw [hc u hu]; exact hk), sg_sg]
  · have e1 : (renC c i k).getD u [] = [] := by rw [List.getD_eq_getElem?_getD, List.getElem?_eq_none (by rw [renC_length]; exact hu)]; rfl
    have e2 : c.getD u [] = [] := by rw [List.getD_eq_getElem?_getD, List.getElem?_eq_none hu]; rfl
    rw [e1, e2]; rfl
theorem ren_eval {g : Graph} {c : Config} {n i k v : Nat} (hc : ∀ u, u < c.length → (c.getD u []).length = n) (hi : i < n) (hk : k < n) {x : Ex} (ha : ∀ t ∈ x.terms, argF t n = true) : ∀ {port : Int}, evalF g (renC c i k) v port (x.ren (renM n i k)) = evalF g c v port x := by
  induction x with
  | leaf t =>
    intro port
    simp only [Ex.ren, evalF]
    have hat := ha t (by simp [Ex.terms])
    by_cases hop : t.op = 5 ∨ t.op = 12
    · obtain ⟨a, h1, h2, h3⟩ := ren_arg hi hk hat hop
      rw [h3]
      unfold leafF
      dsimp only
      rcases hop with h5 | h5
      · rw [h5, if_neg (by decide), if_neg (by decide), if_neg (by decide), if_neg (by decide), if_pos rfl, if_neg (by decide), if_neg (by decide), if_neg (by decide), if_neg (by decide), if_pos rfl, h1, Int.toNat_natCast, Int.toNat_natCast, ren_cell hc hi hk]
      · rw [h5, if_neg (by decide), if_neg (by decide), if_neg (by decide), if_neg (by decide), if_neg (by decide), if_pos rfl, if_neg (by decide), if_neg (by decide), if_neg (by decide), if_neg (by decide), if_neg (by decide), if_pos rfl, h1, Int.toNat_natCast, Int.toNat_natCast, ren_cell hc hi hk]
    · rw [ren_other _ hop]
      unfold leafF
      rw [if_neg (show ¬ t.op = 5 by omega), if_neg (show ¬ t.op = 12 by omega), if_neg (show ¬ t.op = 5 by omega), if_neg (show ¬ t.op = 12 by omega)]
  | un t a ih =>
    intro port
    simp only [Ex.ren, evalF, renTerm_op]
    have hih : ∀ {port : Int}, evalF g (renC c i k) v port (a.ren (renM n i k)) = evalF g c v port a := ih (fun s hs => ha s (by simp [Ex.terms, hs]))
    split
    · congr 1
      exact List.map_congr_left fun k _ => hih
    · rw [hih]
  | bin t x y ihx ihy =>
    intro port
    simp only [Ex.ren, evalF, renTerm_op]
    rw [ihx (fun s hs => ha s (by simp [Ex.terms, hs])), ihy (fun s hs => ha s (by simp [Ex.terms, hs]))]
  | tri t x y z ihx ihy ihz =>
    intro port
    simp only [Ex.ren, evalF]
    rw [ihx (fun s hs => ha s (by simp [Ex.terms, hs])), ihy (fun s hs => ha s (by simp [Ex.terms, hs])), ihz (fun s hs => ha s (by simp [Ex.terms, hs]))]
/-- The value is the same. -/
theorem ren_value {p : Prg} {g : Graph} {c : Config} {i k q : Nat} {es : List Term} (hm : memF p g c = 0) (hi : i < p.vars.length) (hk : k < p.vars.length) (hq : q < c.length) (hv : validF es p.vars.length = true) :
    valueF (renP p i k) g (renC c i k) (q : Int) (es.map (renTerm (renM p.vars.length i k))) = valueF p g c (q : Int) es := by
  have hmr := ren_mem hm hi hk
  obtain ⟨t1, t2, _, t4, _, _⟩ := valid_treeOf hv
  have hte : treeOf (es.map (renTerm (renM p.vars.length i k))) = (treeOf es).ren (renM p.vars.length i k) := treeOf_eq (Ex.ren_ok _ t1) (by rw [Ex.ren_terms, t2])
  have hta : ∀ t ∈ (treeOf es).terms, argF t p.vars.length = true := by rw [t2]; exact t4
  have hks : kindsF (renP p i k) = swapG 0 (kindsF p) i k := by
    show (swapG default p.vars i k).map Var.kind = _
    rw [swapG_map Var.kind (y := 0) hi hk]; rfl
  have hkl := kindsF_length p
  have hof : (ofF (es.map (renTerm (renM p.vars.length i k))) (kindsF (renP p i k)) false).2 = (ofF es (kindsF p) false).2 := by
    have hkn : (swapG 0 (kindsF p) i k).all knownK = (kindsF p).all knownK := by
      rw [Bool.eq_iff_iff, List.all_eq_true, List.all_eq_true]
      have h0 := kinds_known (check_numbers (fits_zero (mem_zero hm).1).1).1
      rw [List.all_eq_true] at h0
      exact ⟨fun _ => h0, fun h x hx => h x (swapG_mem (by rw [hkl]; exact hi) (by rw [hkl]; exact hk) hx)⟩
    unfold ofF
    rw [hks, swapG_length, hkn, hkl, hv, ren_valid hi hk hv, hte]
    have hkd := ren_kind (kinds := kindsF p) (i := i) (k := k) (by rw [hkl]; exact hi) (by rw [hkl]; exact hk) (x := treeOf es) (by rw [hkl]; exact hta) (b := false)
    rw [hkl] at hkd
    rw [hkd]
  unfold valueF
  rw [if_neg (show ¬ memF (renP p i k) g (renC c i k) ≠ 0 by simpa using hmr), if_neg (show ¬ memF p g c ≠ 0 by simpa using hm), renC_length, if_neg (show ¬ ¬ (0 ≤ (q : Int) ∧ (q : Int) ≤ (c.length : Int) - 1) by omega), if_neg (show ¬ ¬ (0 ≤ (q : Int) ∧ (q : Int) ≤ (c.length : Int) - 1) by omega), hof, hte, Int.toNat_natCast, ren_eval (n := p.vars.length) (fun u hu => row_len hm hu) hi hk hta]
theorem ren_light {p : Prg} (h : lightP p = true) {i k : Nat} (hi : i < p.vars.length) (hk : k < p.vars.length) : lightP (renP p i k) = true := by
  unfold lightP at *
  simp only [Bool.and_eq_true, decide_eq_true_eq, List.all_eq_true] at h ⊢
  obtain ⟨⟨⟨⟨h1, h2⟩, h3⟩, h4⟩, h5⟩ := h
  exact ⟨⟨⟨⟨h1, by show (swapG default p.vars i k).length ≤ 10; rw [swapG_length]; exact h2⟩, by show ([] : List Rule).length ≤ 16; simp⟩, fun x hx => h4 x (swapG_mem hi hk hx)⟩, fun x hx => by cases hx⟩
theorem renC_light {c : Config} (h : lightC c = true) (i k : Nat) : lightC (renC c i k) = true := by
  obtain ⟨h1, h2⟩ := lightC_parts h
  unfold lightC
  simp only [Bool.and_eq_true, decide_eq_true_eq, List.all_eq_true]
  refine ⟨by rw [renC_length]; exact h1, fun r hr => ?_⟩
  unfold renC at hr
  obtain ⟨s, hs, rfl⟩ := List.mem_map.1 hr
  rw [swapG_length]; exact h2 s hs
theorem rename_ok {n i k : Nat} (hi : i < n) (hk : k < n) (hn : n ≤ 6) {es : List Term} (hv : validF es n = true) : renameF es (renM n i k) = (es.map (renTerm (renM n i k)), 0) := by
  unfold renameF
  rw [renM_length, hv, if_neg (by decide)]
  have : inVars (renM n i k) = true := by
    unfold inVars
    rw [List.all_eq_true]
    intro x hx
    obtain ⟨j, hj, rfl⟩ := List.getElem_of_mem hx
    rw [renM_length] at hj
    have := renM_get hi hk hj
    rw [getD_eq (by rw [renM_length]; exact hj)] at this
    rw [this]
    have := sg_lt hi hk hj
    simp; omega
  rw [this, if_neg (by decide)]

end Go.Proofs.YtibfjhhadbkkgaaGreat

