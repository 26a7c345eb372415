/- Merged of: PGb PGc Mp Mq (see NOTES.md). -/
import Derived.Test.YtibfjhhadbkkgaaGreatZ04
import Derived.Test.YtibfjhhadbkkgaaGreatZ01
import Derived.Maps.Own
import Derived.Maps.OwnOps
import Derived.Maps.OwnSet
import Derived.Maps.Views
import Derived.WideKeyArr
import Derived.Maps.RangeWalk
set_option linter.unusedSimpArgs false
set_option linter.unnecessarySimpa false
set_option linter.unusedVariables false

/- Valid graphs, plain. -/
namespace Go.Proofs.YtibfjhhadbkkgaaGreat

def portF (ls : List Link) (u : Int) : Int := match ls.findIdx? (fun l => l.to == u) with | some i => (i : Int) | none => -1
theorem portF_found {ls : List Link} {u : Int} {j : Nat} (h : j < ls.length) (ha : (ls.take j).all (fun l => !(l.to == u)) = true) (hj : (ls[j].to == u) = true) : portF ls u = (j : Int) := by
  unfold portF
  have : ls.findIdx? (fun l => l.to == u) = some j := by
    rw [List.findIdx?_eq_some_iff_getElem]
    refine ⟨h, hj, fun k hk => ?_⟩
    have := List.all_eq_true.1 ha ls[k] (by rw [List.mem_take_iff_getElem]; exact ⟨k, by omega, rfl⟩)
    simpa using this
  rw [this]
theorem portF_none {ls : List Link} {u : Int} (ha : ls.all (fun l => !(l.to == u)) = true) : portF ls u = -1 := by
  unfold portF
  have : ls.findIdx? (fun l => l.to == u) = none := by
    rw [List.findIdx?_eq_none_iff]
    intro x hx
    have := List.all_eq_true.1 ha x hx
    simpa using this
  rw [this]


theorem nodup_le : ∀ (n : Nat) (l : List Int), l.Nodup → (∀ x ∈ l, 0 ≤ x ∧ x < (n : Int)) → l.length ≤ n
  | 0, l, _, h => by
    cases l with
    | nil => simp
    | cons x l => have := h x (by simp); omega
  | n + 1, l, hn, h => by
    have h1 := nodup_le n (l.erase (n : Int)) (hn.erase _) (fun x hx => by
      have h2 := h x (List.mem_of_mem_erase hx)
      have h3 : x ≠ (n : Int) := by
        rintro rfl
        exact (List.Nodup.not_mem_erase hn) hx
      omega)
    have h4 : l.length ≤ (l.erase (n : Int)).length + 1 := by
      rw [List.length_erase]; split <;> omega
    omega

def linkOK (n v : Nat) (l : Link) : Bool := decide (0 ≤ l.to ∧ l.to < (n : Int) ∧ l.to ≠ (v : Int) ∧ 1 ≤ l.weight ∧ l.weight ≤ 15)
def linksOK (n v : Nat) (ls : List Link) : Bool := ls.all (linkOK n v) && decide ((ls.map Link.to).Nodup)
def backOK (g : Graph) (v : Nat) (l : Link) : Bool := (g.ports.getD l.to.toNat []).any fun k => k.to == (v : Int) && k.weight == l.weight
def idsOK (ids : List Int) : Bool := ids.all (fun i => decide (0 ≤ i ∧ i ≤ 255)) && decide ids.Nodup
def graphB (g : Graph) : Bool :=
  decide (1 ≤ g.ports.length ∧ g.ports.length ≤ 24 ∧ g.ids.length = g.ports.length) && idsOK g.ids
    && (List.range g.ports.length).all (fun v => linksOK g.ports.length v (g.ports.getD v []))
    && (List.range g.ports.length).all (fun v => (g.ports.getD v []).all (backOK g v))

structure GOK (g : Graph) : Prop where
  pos : 1 ≤ g.ports.length
  le : g.ports.length ≤ 24
  ids : g.ids.length = g.ports.length
  idr : ∀ i ∈ g.ids, 0 ≤ i ∧ i ≤ 255
  idn : g.ids.Nodup
  links : ∀ v, (h : v < g.ports.length) → linksOK g.ports.length v g.ports[v] = true
  back : ∀ v, (h : v < g.ports.length) → ∀ l ∈ g.ports[v], backOK g v l = true

theorem getD_eq {α : Type} {l : List α} {k : Nat} {d : α} (h : k < l.length) : l.getD k d = l[k] := by simp [List.getD_eq_getElem?_getD, h]

theorem graphB_iff (g : Graph) : graphB g = true ↔ GOK g := by
  unfold graphB idsOK
  simp only [Bool.and_eq_true, decide_eq_true_eq, List.all_eq_true, List.mem_range]
  constructor
  · rintro ⟨⟨⟨⟨h1, h2, h3⟩, h4, h5⟩, h6⟩, h7⟩
    exact ⟨h1, h2, h3, h4, h5, fun v hv => by have := h6 v hv; rwa [getD_eq hv] at this, fun v hv l hl => by have := h7 v hv; rw [getD_eq hv] at this; exact this l hl⟩
  · rintro ⟨h1, h2, h3, h4, h5, h6, h7⟩
    exact ⟨⟨⟨⟨h1, h2, h3⟩, h4, h5⟩, fun v hv => by rw [getD_eq hv]; exact h6 v hv⟩, fun v hv => by rw [getD_eq hv]; exact h7 v hv⟩

theorem linksOK_iff {n v : Nat} {ls : List Link} : linksOK n v ls = true ↔ (∀ l ∈ ls, linkOK n v l = true) ∧ (ls.map Link.to).Nodup := by
  unfold linksOK
  simp only [Bool.and_eq_true, decide_eq_true_eq, List.all_eq_true]
theorem linkOK_iff {n v : Nat} {l : Link} : linkOK n v l = true ↔ 0 ≤ l.to ∧ l.to < (n : Int) ∧ l.to ≠ (v : Int) ∧ 1 ≤ l.weight ∧ l.weight ≤ 15 := by
  unfold linkOK; simp only [decide_eq_true_eq]
theorem linksOK_len {n v : Nat} {ls : List Link} (hv : v < n) (h : linksOK n v ls = true) : ls.length < n := by
  obtain ⟨h1, h2⟩ := linksOK_iff.1 h
  have := nodup_le n ((v : Int) :: ls.map Link.to) (by
    rw [List.nodup_cons]
    refine ⟨?_, h2⟩
    intro hm
    obtain ⟨l, hl, he⟩ := List.mem_map.1 hm
    exact (linkOK_iff.1 (h1 l hl)).2.2.1 he) (by
    intro x hx
    rcases List.mem_cons.1 hx with rfl | hx
    · omega
    · obtain ⟨l, hl, rfl⟩ := List.mem_map.1 hx
      have := linkOK_iff.1 (h1 l hl)
      omega)
  simp at this
  omega

theorem nodup_take_succ {l : List Int} {k : Nat} (h : k < l.length) (hn : (l.take k).Nodup) (hne : ∀ j (hj : j < k), l[j] ≠ l[k]) : (l.take (k + 1)).Nodup := by
  rw [List.take_succ_eq_append_getElem h, List.nodup_append]
  refine ⟨hn, by simp, ?_⟩
  intro a ha b hb
  simp at hb
  subst hb
  rw [List.mem_take_iff_getElem] at ha
  obtain ⟨j, hj, rfl⟩ := ha
  exact hne j (by omega)
theorem not_nodup {l : List Int} {j k : Nat} (hj : j < k) (hk : k < l.length) (he : l[j] = l[k]) : ¬ l.Nodup := by
  intro hn
  have := (List.nodup_iff_pairwise_ne.1 hn)
  rw [List.pairwise_iff_getElem] at this
  exact this j k (by omega) hk hj he

/-- The first port that leads to a node is the only one. -/
theorem portF_some {ls : List Link} {u : Int} (h : 0 ≤ portF ls u) : ∃ k : Nat, ∃ hk : k < ls.length, portF ls u = (k : Int) ∧ ls[k].to = u := by
  unfold portF at *
  cases hf : ls.findIdx? (fun l => l.to == u) with
  | none => rw [hf] at h; simp at h
  | some k =>
    rw [List.findIdx?_eq_some_iff_getElem] at hf
    obtain ⟨hk, h1, _⟩ := hf
    exact ⟨k, hk, rfl, by simpa using h1⟩
theorem portF_neg {ls : List Link} {u : Int} (h : portF ls u < 0) : ∀ l ∈ ls, l.to ≠ u := by
  unfold portF at *
  cases hf : ls.findIdx? (fun l => l.to == u) with
  | none =>
    rw [List.findIdx?_eq_none_iff] at hf
    intro l hl
    simpa using hf l hl
  | some k => rw [hf] at h; simp at h; omega
theorem portF_range (ls : List Link) (u : Int) : -1 ≤ portF ls u ∧ portF ls u < ls.length := by
  unfold portF
  cases hf : ls.findIdx? (fun l => l.to == u) with
  | none => simp; omega
  | some k =>
    rw [List.findIdx?_eq_some_iff_getElem] at hf
    obtain ⟨hk, _⟩ := hf
    simp; omega
theorem back_weight {ls : List Link} {v : Nat} {x : Int} (hn : (ls.map Link.to).Nodup) (k : Nat) (hk : k < ls.length) (ht : ls[k].to = (v : Int)) : (ls.any fun k => k.to == (v : Int) && k.weight == x) = (ls[k].weight == x) := by
  rw [Bool.eq_iff_iff, List.any_eq_true]
  constructor
  · rintro ⟨l, hl, hh⟩
    simp at hh
    obtain ⟨h1, h2⟩ := hh
    obtain ⟨j, hj, rfl⟩ := List.getElem_of_mem hl
    have : j = k := by
      rcases Nat.lt_trichotomy j k with h | h | h
      · exact absurd hn (not_nodup (k := k) h (by simpa using hk) (by simp [h1, ht]))
      · exact h
      · exact absurd hn (not_nodup (k := j) h (by simpa using hj) (by simp [h1, ht]))
    subst this
    simpa using h2
  · intro h
    exact ⟨ls[k], List.getElem_mem hk, by simp [ht]; simpa using h⟩
theorem back_none {ls : List Link} {v : Nat} {x : Int} (h : portF ls v < 0) : (ls.any fun k => k.to == (v : Int) && k.weight == x) = false := by
  rw [List.any_eq_false]
  intro l hl
  have := portF_neg h l hl
  simp [this]

end Go.Proofs.YtibfjhhadbkkgaaGreat

/- Symmetric links, plain: as the program's map of weights tells them. -/
namespace Go.Proofs.YtibfjhhadbkkgaaGreat

def wOf (ls : List Link) (b : Int) : Int := match ls.find? (fun l => l.to == b) with | some l => l.weight | none => 0
def mOf (ports : List (List Link)) (v j : Nat) (a b : Int) : Int :=
  if 0 ≤ a ∧ a < (v : Int) then wOf (ports.getD a.toNat []) b else if a = (v : Int) then wOf ((ports.getD v []).take j) b else 0
def symB (ports : List (List Link)) : Bool :=
  (List.range ports.length).all (fun v => linksOK ports.length v (ports.getD v [])) && (List.range ports.length).all (fun v => (ports.getD v []).all (backOK ⟨[], ports⟩ v))
structure SymOK (ports : List (List Link)) : Prop where
  links : ∀ v, (h : v < ports.length) → linksOK ports.length v ports[v] = true
  back : ∀ v, (h : v < ports.length) → ∀ l ∈ ports[v], backOK ⟨[], ports⟩ v l = true
theorem symB_iff (ports : List (List Link)) : symB ports = true ↔ SymOK ports := by
  unfold symB
  simp only [Bool.and_eq_true, List.all_eq_true, List.mem_range]
  constructor
  · rintro ⟨h6, h7⟩
    exact ⟨fun v hv => by have := h6 v hv; rwa [getD_eq hv] at this, fun v hv l hl => by have := h7 v hv; rw [getD_eq hv] at this; exact this l hl⟩
  · rintro ⟨h6, h7⟩
    exact ⟨fun v hv => by rw [getD_eq hv]; exact h6 v hv, fun v hv => by rw [getD_eq hv]; exact h7 v hv⟩
theorem symB_false {ports : List (List Link)} (h : ¬ SymOK ports) : symB ports = false := by
  rw [Bool.eq_false_iff]; intro hb; exact h ((symB_iff ports).1 hb)
theorem graphB_sym (g : Graph) : graphB g = (decide (1 ≤ g.ports.length ∧ g.ports.length ≤ 24 ∧ g.ids.length = g.ports.length) && idsOK g.ids && symB g.ports) := by
  unfold graphB symB
  have : ∀ v, backOK g v = backOK ⟨[], g.ports⟩ v := fun v => rfl
  simp only [this, Bool.and_assoc]

theorem wOf_none {ls : List Link} {b : Int} (h : ∀ l ∈ ls, l.to ≠ b) : wOf ls b = 0 := by
  unfold wOf
  have : ls.find? (fun l => l.to == b) = none := by
    rw [List.find?_eq_none]
    intro l hl; simpa using h l hl
  rw [this]
theorem wOf_pos {ls : List Link} {b : Int} (hw : ∀ l ∈ ls, 1 ≤ l.weight) (h : wOf ls b = 0) : ∀ l ∈ ls, l.to ≠ b := by
  unfold wOf at h
  cases hf : ls.find? (fun l => l.to == b) with
  | none =>
    rw [List.find?_eq_none] at hf
    intro l hl; simpa using hf l hl
  | some l =>
    rw [hf] at h
    simp only [] at h
    have := hw l (List.mem_of_find?_eq_some hf)
    omega
theorem wOf_some {ls : List Link} {b : Int} (h : wOf ls b ≠ 0) : ∃ l ∈ ls, l.to = b ∧ wOf ls b = l.weight := by
  unfold wOf at *
  cases hf : ls.find? (fun l => l.to == b) with
  | none => rw [hf] at h; exact absurd rfl h
  | some l => exact ⟨l, List.mem_of_find?_eq_some hf, by simpa using List.find?_some hf, rfl⟩
theorem wOf_unique {ls : List Link} (hn : (ls.map Link.to).Nodup) {l : Link} (hl : l ∈ ls) : wOf ls l.to = l.weight := by
  unfold wOf
  cases hf : ls.find? (fun k => k.to == l.to) with
  | none =>
    rw [List.find?_eq_none] at hf
    have := hf l hl
    simp at this
  | some k =>
    have h1 : k.to = l.to := by simpa using List.find?_some hf
    have h2 := List.mem_of_find?_eq_some hf
    obtain ⟨i, hi, rfl⟩ := List.getElem_of_mem hl
    obtain ⟨j, hj, rfl⟩ := List.getElem_of_mem h2
    have : i = j := by
      rcases Nat.lt_trichotomy i j with h | h | h
      · exact absurd hn (not_nodup h (by simpa using hj) (by simp [h1]))
      · exact h
      · exact absurd hn (not_nodup h (by simpa using hi) (by simp [h1]))
    subst this; rfl
theorem wOf_snoc {ls : List Link} {j : Nat} (h : j < ls.length) (hno : ∀ l ∈ ls.take j, l.to ≠ ls[j].to) (b : Int) : wOf (ls.take (j + 1)) b = if b = ls[j].to then ls[j].weight else wOf (ls.take j) b := by
  unfold wOf
  rw [List.take_succ_eq_append_getElem h, List.find?_append]
  by_cases hb : b = ls[j].to
  · subst hb
    have : (ls.take j).find? (fun l => l.to == ls[j].to) = none := by
      rw [List.find?_eq_none]; intro l hl; simpa using hno l hl
    rw [this, if_pos rfl]
    simp
  · rw [if_neg hb]
    cases hf : (ls.take j).find? (fun l => l.to == b) with
    | some l => simp
    | none =>
      have : (ls[j].to == b) = false := by simp; exact fun h => hb h.symm
      simp [this]
theorem mOf_step {ports : List (List Link)} {v j : Nat} (hv : v < ports.length) (hj : j < ports[v].length) (hno : ∀ l ∈ ports[v].take j, l.to ≠ ports[v][j].to) (a b : Int) :
    mOf ports v (j + 1) a b = if a = (v : Int) ∧ b = ports[v][j].to then ports[v][j].weight else mOf ports v j a b := by
  unfold mOf
  rw [getD_eq hv]
  by_cases ha : a = (v : Int)
  · subst ha
    have hn : ¬ (0 ≤ (v : Int) ∧ (v : Int) < (v : Int)) := by omega
    simp only [if_neg hn, if_pos, true_and]
    rw [wOf_snoc hj hno]
  · rw [if_neg (c := a = (v : Int) ∧ _) (fun h => ha h.1)]
    simp only [if_neg ha]
theorem mOf_row {ports : List (List Link)} {v j : Nat} (hv : v < ports.length) (hj : ports[v].length ≤ j) (a b : Int) : mOf ports v j a b = mOf ports (v + 1) 0 a b := by
  unfold mOf
  rw [getD_eq hv, List.take_of_length_le hj]
  by_cases ha : a = (v : Int)
  · subst ha
    rw [if_neg (by omega), if_pos rfl, if_pos (by omega), Int.toNat_natCast, getD_eq hv]
  · by_cases h1 : 0 ≤ a ∧ a < (v : Int)
    · rw [if_pos h1, if_pos (by omega)]
    · rw [if_neg h1, if_neg ha, if_neg (by omega)]
      split
      · simp [wOf]
      · rfl
theorem mOf_start (ports : List (List Link)) (a b : Int) : mOf ports 0 0 a b = 0 := by
  unfold mOf
  rw [if_neg (by omega)]
  split
  · simp [wOf]
  · rfl
theorem mOf_at {ports : List (List Link)} {n v j : Nat} (h : v < ports.length) (hn : v < n) (b : Int) : mOf ports n j (v : Int) b = wOf ports[v] b := by
  unfold mOf
  rw [if_pos (by omega), Int.toNat_natCast, getD_eq h]
theorem mOf_out {ports : List (List Link)} {n : Nat} {a b : Int} (h : mOf ports n 0 a b ≠ 0) : 0 ≤ a ∧ a < (n : Int) := by
  unfold mOf at h
  split at h
  · assumption
  · split at h
    · simp [wOf] at h
    · exact absurd rfl h
/-- The map tells symmetry. -/
theorem sym_of_map {ports : List (List Link)} (hl : ∀ v, (h : v < ports.length) → linksOK ports.length v ports[v] = true) : SymOK ports ↔ ∀ a b, mOf ports ports.length 0 a b ≠ 0 → mOf ports ports.length 0 b a = mOf ports ports.length 0 a b := by
  constructor
  · intro hs a b hne
    obtain ⟨h0, h1⟩ := mOf_out hne
    obtain ⟨v, rfl⟩ := Int.eq_ofNat_of_zero_le h0
    have hv : v < ports.length := by omega
    rw [mOf_at hv hv] at hne ⊢
    obtain ⟨l, hlm, rfl, he⟩ := wOf_some hne
    rw [he]
    obtain ⟨k1, k2⟩ := linksOK_iff.1 (hl v hv)
    obtain ⟨t0, t1, _⟩ := linkOK_iff.1 (k1 l hlm)
    obtain ⟨t, ht⟩ := Int.eq_ofNat_of_zero_le t0
    have htl : t < ports.length := by omega
    have hb := hs.back v hv l hlm
    unfold backOK at hb
    simp only [] at hb
    rw [ht, Int.toNat_natCast, getD_eq htl, List.any_eq_true] at hb
    obtain ⟨k, hk, hkk⟩ := hb
    simp at hkk
    rw [ht, mOf_at htl htl]
    have hu := wOf_unique (linksOK_iff.1 (hl t htl)).2 hk
    rw [hkk.1] at hu
    rw [hu, hkk.2]
  · intro h
    refine ⟨hl, fun v hv l hlm => ?_⟩
    obtain ⟨k1, k2⟩ := linksOK_iff.1 (hl v hv)
    obtain ⟨t0, t1, _, t3, _⟩ := linkOK_iff.1 (k1 l hlm)
    obtain ⟨t, ht⟩ := Int.eq_ofNat_of_zero_le t0
    have htl : t < ports.length := by omega
    have hw := wOf_unique k2 hlm
    have h1 : mOf ports ports.length 0 (v : Int) l.to = l.weight := by rw [mOf_at hv hv, hw]
    have h2 := h (v : Int) l.to (by rw [h1]; omega)
    rw [h1, ht, mOf_at htl htl] at h2
    obtain ⟨k, hk, hk1, hk2⟩ := wOf_some (ls := ports[t]) (b := (v : Int)) (by omega)
    unfold backOK
    simp only []
    rw [ht, Int.toNat_natCast, getD_eq htl, List.any_eq_true]
    exact ⟨k, hk, by simp [hk1]; omega⟩

end Go.Proofs.YtibfjhhadbkkgaaGreat

/- Maps of the call's own: sets of keys (map[K]bool that is stored true alone). -/
namespace Go.Proofs.YtibfjhhadbkkgaaGreat
open Go.RowKit Go.Maps

/-- The map in block b holds true at these keys, and nothing else. -/
def SetR (P : Program) (k e : TypeId) (w : World) (b n : Nat) (ks : List Lit) : Prop :=
  ∃ D : DataW Unit, w.ownsMap P k (plainElem P e) b n D ∧ IsMap D ∧ ∀ kl, ∃ x, D.atKey kl (.lit (.bool false)) = .lit (.bool x) ∧ (x = true ↔ kl ∈ ks)
theorem SetR.made (P : Program) (k e : TypeId) (w : World) : SetR P k e (w.alloc (.map #[] 0)) w.heap.size 0 [] :=
  ⟨.map [], World.ownsMap_made w P k _, isMap_empty, fun kl => ⟨false, by simp [DataW.atKey], by simp⟩⟩
theorem SetR.kept {P : Program} {k e : TypeId} {w w' : World} {b n : Nat} {ks : List Lit} {row : Option Nat} (h : SetR P k e w b n ks) (hg : w.grownBy w' row) (hne : some b ≠ row) : SetR P k e w' b n ks := by
  obtain ⟨D, h1, h2, h3⟩ := h
  exact ⟨D, h1.kept hg hne, h2, h3⟩
theorem SetR.keep {P : Program} {k e : TypeId} {w w' : World} {b n : Nat} {ks : List Lit} (h : SetR P k e w b n ks) (hb : Bel w w') : SetR P k e w' b n ks := h.kept (hb.grownBy none) (by simp)
theorem SetR.lt {P : Program} {k e : TypeId} {w : World} {b n : Nat} {ks : List Lit} (h : SetR P k e w b n ks) : b < w.heap.size := by
  obtain ⟨D, h1, _, _⟩ := h
  exact h1.lt
theorem plainElem_bool_inv {P : Program} {e : TypeId} (he : P.underlying e = some .bool) {v : Value} {x : Bool} {ps : List MemPlace} (h : plainElem (H := Unit) P e v = some (.lit (.bool x), ps)) : v = .bool x := by
  unfold plainElem at h
  rw [he] at h
  cases v <;> simp at h
  · rename_i b
    obtain ⟨h1, _⟩ := h
    simp [h1]
theorem SetR.look {P : Program} {k e t : TypeId} {w : World} {b n : Nat} {ks : List Lit} (h : SetR P k e w b n ks) (K : Keyed P k) (ht : P.underlying t = some (.map k e)) (he : P.underlying e = some .bool) (hz : (zeroValue e).run P w = .ok (.bool false) w)
    {key : Value} {kl : Lit} (hkey : keyOf P k key = some kl) : ∃ x, (Instr.lookup t (.map (some b)) key false).run P w = .ok (.bool x) w ∧ (x = true ↔ kl ∈ ks) := by
  obtain ⟨D, h1, _, h3⟩ := h
  obtain ⟨v, ps, hrun, hv⟩ := h1.lookup K ht hz (plainElem_bool he false) hkey
  obtain ⟨x, hx, hi⟩ := h3 kl
  rw [hx] at hv
  exact ⟨x, by rw [hrun, plainElem_bool_inv he hv], hi⟩
theorem wpList_putSet {P : Program} (w : World) {ops : Array Oper} {rest : List Oper} {o : Oper} {a : Act} {Q : Exit → Act → World → Prop}
    (hg : o.guard = none) (m x v : Operand) (t : TypeId) (hop : o.op = Op.mapUpdate t m x v)
    (k e : TypeId) (K : Keyed P k) (ht : P.underlying t = some (.map k e)) (he : P.underlying e = some .bool) (b n : Nat) (ks : List Lit)
    (hm : a.eval m = .map (some b)) (hown : SetR P k e w b n ks) (hn : n < maxLen) (key : Value) (kl : Lit) (hx : a.eval x = key) (hv : a.eval v = .bool true) (hkey : keyOf P k key = some kl) (hkl : WideAt.IsKeyLit kl)
    (hK : ∀ w', SetR P k e w' b (n + 1) (kl :: ks) → w.grownBy w' (some b) → wpList P ops Q rest (a.put o.dst undef) w') :
    wpList P ops Q (o :: rest) a w := by
  obtain ⟨D, h1, h2, h3⟩ := hown
  refine wpList_mapUpdate_own w hg m x v t hop k e K ht _ b n D hm h1 hn key (.bool true) kl hx hv hkey _ [] (plainElem_bool he true) ?_
  intro w' h4 h5
  refine hK w' ⟨_, h4, h2.put _ _, fun kl' => ?_⟩ h5
  by_cases hh : kl' = kl
  · subst hh
    exact ⟨true, by rw [atKey_put_same h2 hkl], by simp⟩
  · obtain ⟨x, hx, hi⟩ := h3 kl'
    exact ⟨x, by rw [atKey_put_other hh, hx], by rw [hi]; simp [hh]⟩
theorem Bel.map {w wr w' : World} (h : Bel w wr) {b : Nat} (hb : w.heap.size ≤ b) (hg : wr.grownBy w' (some b)) : Bel w w' := h.grown hg (fun k hk => by injection hk with hk; omega)

end Go.Proofs.YtibfjhhadbkkgaaGreat

/- Maps of the call's own whose keys are pairs of numbers and whose elements are numbers. -/
namespace Go.Proofs.YtibfjhhadbkkgaaGreat
open Go.RowKit Go.Maps

structure PairK (P : Program) (k e : TypeId) : Prop where
  hu : P.underlying k = some (.array 2 e)
  he : P.underlying e = some (.int .i64)
  one : P.cellsOf e = 1
  two : P.cellsOf k = 2
  kt : P.keyType k = true
  sz : ∃ m, P.types.size = m + 1
def pk (a b : Int) : Lit := .string (keyBytes [.int .i64 a, .int .i64 b])
def pairV (x : Int × Int) : Value := .agg #[.int .i64 x.1, .int .i64 x.2]

theorem PairK.law {P : Program} {k e : TypeId} (A : PairK P k e) : Keyed P k :=
  Keyed.of_law (WideMaps.ArrKey.law ⟨A.hu, by unfold Program.plainKey; rw [A.he], A.one, A.two⟩)
theorem PairK.keyOf {P : Program} {k e : TypeId} (A : PairK P k e) {a b : Int} (ha : (Lit.int .i64 a).wf = true) (hb : (Lit.int .i64 b).wf = true) : Go.keyOf P k (pairV (a, b)) = some (pk a b) := by
  obtain ⟨m, hm⟩ := A.sz
  unfold Go.keyOf pairV
  rw [A.hu]
  simp only []
  rw [A.kt]
  simp only [Value.formed, A.hu, A.two, Bool.true_and]
  rw [hm]
  simp only [Program.keyLits, A.hu, A.he, A.one, A.two, Value.cells, List.range, List.range.loop]
  simp [ha, hb, pk]
theorem PairK.inv {P : Program} {k e : TypeId} (A : PairK P k e) {v : Value} {l : Lit} (h : Go.keyOf P k v = some l) : ∃ x : Int × Int, v = pairV x ∧ (Lit.int .i64 x.1).wf = true ∧ (Lit.int .i64 x.2).wf = true ∧ l = pk x.1 x.2 := by
  obtain ⟨m, hm⟩ := A.sz
  unfold Go.keyOf at h
  rw [A.hu] at h
  simp only [] at h
  rw [A.kt] at h
  cases v with
  | agg cs =>
    simp only [Value.formed, A.hu, A.two, Bool.true_and] at h
    split at h
    · rename_i hs
      obtain ⟨l'⟩ := cs
      simp at hs
      match l', hs with
      | [u, v], _ =>
        rw [hm] at h
        cases u with
        | int q a =>
          cases v with
          | int q' b =>
            simp only [Program.keyLits, A.hu, A.he, A.one, A.two, Value.cells, List.range, List.range.loop] at h
            by_cases h1 : q = .i64 ∧ (Lit.int .i64 a).wf = true
            · by_cases h2 : q' = .i64 ∧ (Lit.int .i64 b).wf = true
              · obtain ⟨rfl, h1⟩ := h1
                obtain ⟨rfl, h2⟩ := h2
                simp [h1, h2] at h
                exact ⟨(a, b), rfl, h1, h2, h.symm⟩
              · simp [h1, h2] at h
            · simp [h1] at h
          | _ => simp [Program.keyLits, A.hu, A.he, A.one, A.two, Value.cells, List.range, List.range.loop] at h
        | _ => simp [Program.keyLits, A.hu, A.he, A.one, A.two, Value.cells, List.range, List.range.loop] at h
    · cases h
  | _ => simp [Value.formed, A.hu] at h
theorem pk_inj {P : Program} {k e : TypeId} (A : PairK P k e) {a b c d : Int} (ha : (Lit.int .i64 a).wf = true) (hb : (Lit.int .i64 b).wf = true) (hc : (Lit.int .i64 c).wf = true) (hd : (Lit.int .i64 d).wf = true) (h : pk a b = pk c d) : a = c ∧ b = d := by
  have h1 := A.keyOf ha hb
  have h2 := A.keyOf hc hd
  rw [h] at h1
  have := A.law.inj h1 h2
  simp [pairV] at this
  exact this

/-- The map in block b reads as a list of pairs with numbers: 0 stands for 'not there'. -/
def PairR (P : Program) (k e : TypeId) (w : World) (b n : Nat) (D : DataW Unit) (M : Int → Int → Int) : Prop :=
  w.ownsMap P k (plainElem P e) b n D ∧ IsMap D ∧ (∀ x y, (Lit.int .i64 x).wf = true → (Lit.int .i64 y).wf = true → D.atKey (pk x y) (.lit (.int .i64 0)) = .lit (.int .i64 (M x y)) ∧ (has D (pk x y) = true ↔ M x y ≠ 0))
theorem PairR.made (P : Program) (k e : TypeId) (w : World) : PairR P k e (w.alloc (.map #[] 0)) w.heap.size 0 (.map []) (fun _ _ => 0) :=
  ⟨World.ownsMap_made w P k _, isMap_empty, fun x y _ _ => ⟨by simp [DataW.atKey], by simp [has]⟩⟩
theorem PairR.kept {P : Program} {k e : TypeId} {w w' : World} {b n : Nat} {D : DataW Unit} {M : Int → Int → Int} {row : Option Nat} (h : PairR P k e w b n D M) (hg : w.grownBy w' row) (hne : some b ≠ row) : PairR P k e w' b n D M :=
  ⟨h.1.kept hg hne, h.2⟩
theorem PairR.keep {P : Program} {k e : TypeId} {w w' : World} {b n : Nat} {D : DataW Unit} {M : Int → Int → Int} (h : PairR P k e w b n D M) (hb : Bel w w') : PairR P k e w' b n D M := h.kept (hb.grownBy none) (by simp)
theorem PairR.lookOk {P : Program} {k e t : TypeId} (A : PairK P k e) (ht : P.underlying t = some (.map k e)) {w : World} {b n : Nat} {D : DataW Unit} {M : Int → Int → Int} (h : PairR P k e w b n D M) (hz : (zeroValue e).run P w = .ok (.int .i64 0) w) {x y : Int} (hx : (Lit.int .i64 x).wf = true) (hy : (Lit.int .i64 y).wf = true) :
    (Instr.lookup t (.map (some b)) (pairV (x, y)) true).run P w = .ok (.tuple #[.int .i64 (M x y), .bool (decide (M x y ≠ 0))]) w := by
  obtain ⟨v, ps, hrun, hv⟩ := h.1.look_ok A.law ht hz (plainElem_int A.he (by decide)) (A.keyOf hx hy)
  obtain ⟨h1, h2⟩ := h.2.2 x y hx hy
  rw [h1] at hv
  obtain ⟨c, rfl, hc, _⟩ := plainElem_int_inv A.he hv
  simp at hc
  rw [hrun, ← hc.1]
  congr 3
  rw [show has D (pk x y) = decide (M x y ≠ 0) by rw [Bool.eq_iff_iff]; simpa using h2]
theorem PairR.look {P : Program} {k e t : TypeId} (A : PairK P k e) (ht : P.underlying t = some (.map k e)) {w : World} {b n : Nat} {D : DataW Unit} {M : Int → Int → Int} (h : PairR P k e w b n D M) (hz : (zeroValue e).run P w = .ok (.int .i64 0) w) {x y : Int} (hx : (Lit.int .i64 x).wf = true) (hy : (Lit.int .i64 y).wf = true) :
    (Instr.lookup t (.map (some b)) (pairV (x, y)) false).run P w = .ok (.int .i64 (M x y)) w := by
  obtain ⟨c, hrun, hc, _⟩ := h.1.lookup_int A.law ht A.he hz (A.keyOf hx hy)
  rw [(h.2.2 x y hx hy).1] at hc
  simp at hc
  rw [hrun, hc]
def putM (M : Int → Int → Int) (x y c : Int) : Int → Int → Int := fun a b => if a = x ∧ b = y then c else M a b
theorem PairR.put {P : Program} {k e : TypeId} (A : PairK P k e) {w' : World} {b n : Nat} {D : DataW Unit} {M : Int → Int → Int} {x y c : Int} (hx : (Lit.int .i64 x).wf = true) (hy : (Lit.int .i64 y).wf = true) (hc : c ≠ 0)
    (h2 : IsMap D ∧ (∀ x y, (Lit.int .i64 x).wf = true → (Lit.int .i64 y).wf = true → D.atKey (pk x y) (.lit (.int .i64 0)) = .lit (.int .i64 (M x y)) ∧ (has D (pk x y) = true ↔ M x y ≠ 0)))
    (h : w'.ownsMap P k (plainElem P e) b n (D.put (pk x y) (.lit (.int .i64 c)))) : PairR P k e w' b n (D.put (pk x y) (.lit (.int .i64 c))) (putM M x y c) := by
  refine ⟨h, h2.1.put _ _, fun a b ha hb => ?_⟩
  have hkl : WideAt.IsKeyLit (pk x y) := trivial
  by_cases he : a = x ∧ b = y
  · obtain ⟨rfl, rfl⟩ := he
    refine ⟨?_, ?_⟩
    · rw [atKey_put_same h2.1 hkl]; simp [putM]
    · simp only [putM]
      simp [hc]
      exact has_true_of_atKey (y := .lit (.int .i64 c)) (fun z => atKey_put_same h2.1 hkl _ z)
  · have hne : pk a b ≠ pk x y := fun h => he (pk_inj A ha hb hx hy h)
    have hM : putM M x y c a b = M a b := by unfold putM; rw [if_neg he]
    obtain ⟨g1, g2⟩ := h2.2 a b ha hb
    refine ⟨by rw [atKey_put_other hne, hM, g1], ?_⟩
    rw [hM, ← g2]
    constructor
    · intro hh
      cases hD : has D (pk a b) with
      | true => rfl
      | false =>
        have : has (D.put (pk x y) (.lit (.int .i64 c))) (pk a b) = false := has_false_of_atKey (fun z => by rw [atKey_put_other hne, atKey_of_not_has hD])
        rw [this] at hh; cases hh
    · intro hh
      cases hD : has (D.put (pk x y) (.lit (.int .i64 c))) (pk a b) with
      | true => rfl
      | false =>
        have : has D (pk a b) = false := has_false_of_atKey (fun z => by rw [← atKey_put_other hne (.lit (.int .i64 c)), atKey_of_not_has hD])
        rw [this] at hh; cases hh

end Go.Proofs.YtibfjhhadbkkgaaGreat

