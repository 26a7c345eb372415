/- Merged of: PE PEb WEa WEb (see NOTES.md). -/
import Derived.Test.YtgemlgpjbclonaaGreatDoorZ17
set_option linter.unusedSimpArgs false
set_option linter.unnecessarySimpa false
set_option linter.unusedVariables false

/- The plain form of evaluation, and that its values are numbers of the rule language. -/
namespace Go.Proofs.YtgemlgpjbclonaaGreatDoor

def linkF (g : Graph) (v : Nat) (port : Int) : Link := (g.ports.getD v []).getD port.toNat default
def factF (g : Graph) (op : Int) (v : Nat) (port : Int) : Int :=
 if op = 6 then g.ids.length else if op = 7 then gmax g.ids else if op = 8 then g.ids.getD v 0 else if op = 9 then (g.ports.getD v []).length
 else if op = 10 then truthI (decide (v = 0)) else if op = 11 then port
 else if op = 13 then g.ids.getD (linkF g v port).to.toNat 0
 else if op = 14 then (g.ports.getD (linkF g v port).to.toNat []).length
 else if op = 15 then truthI (decide ((linkF g v port).to = 0))
 else if op = 16 then (linkF g v port).weight
 else portF (g.ports.getD (linkF g v port).to.toNat []) v
def leafF (g : Graph) (c : Config) (v : Nat) (port : Int) (t : Term) : Int :=
 if t.op = 1 then t.arg else if t.op = 2 then 1 else if t.op = 3 then 0 else if t.op = 4 then -1
 else if t.op = 5 then (c.getD v []).getD t.arg.toNat 0
 else if t.op = 12 then (c.getD (linkF g v port).to.toNat []).getD t.arg.toNat 0
 else factF g t.op v port
def evalF (g : Graph) (c : Config) (v : Nat) : Int → Ex → Int
 | port, .leaf t => leafF g c v port t
 | port, .un t a => if aggregate t.op then foldF t.op ((List.range (g.ports.getD v []).length).map fun (k : Nat) => evalF g c v (k : Int) a) else unaryF t.op (evalF g c v port a)
 | port, .bin t a b => binaryF t.op (evalF g c v port a) (evalF g c v port b)
 | port, .tri _ a b d => if evalF g c v port a ≠ 0 then evalF g c v port b else evalF g c v port d

def boundOK : Bool → Ex → Prop
 | b, .leaf t => nearOp t.op = true → b = true
 | b, .un t a => boundOK (b || aggregate t.op) a
 | b, .bin _ x y => boundOK b x ∧ boundOK b y
 | b, .tri _ x y z => boundOK b x ∧ boundOK b y ∧ boundOK b z
theorem ifK_ne {b : Bool} {k : Int} (h : ifK b k ≠ 0) : b = true ∧ k ≠ 0 := by
 unfold ifK at h
 cases b
 ·exact absurd rfl h
 ·exact ⟨rfl, h⟩
theorem singleK_ne {op a : Int} (h : singleK op a ≠ 0) : a ≠ 0 := by
 unfold singleK at h
 rintro rfl
 repeat' split at h
 all_goals exact h rfl
theorem doubleK_ne {op a b : Int} (h : doubleK op a b ≠ 0) : a ≠ 0 ∧ b ≠ 0 := by
 unfold doubleK at h
 repeat' split at h
 all_goals
  have := (ifK_ne h).1
  simp at this
  omega
theorem kind_bound {kinds : List Int} {x : Ex} : ∀ {b : Bool}, kindF kinds b x ≠ 0 → boundOK b x := by
 induction x with
 | leaf t =>
  intro b h hn
  simp only [kindF] at h
  cases b
  ·rw [hn] at h; exact absurd rfl h
  ·rfl
 | un t a ih => intro b h; exact ih (singleK_ne h)
 | bin t x y ihx ihy => intro b h; obtain ⟨h1, h2⟩ := doubleK_ne h; exact ⟨ihx h1, ihy h2⟩
 | tri t x y z ihx ihy ihz =>
  intro b h
  obtain ⟨h1, h2⟩ := ifK_ne h
  simp at h1
  refine ⟨ihx (by omega), ihy h2, ihz ?_⟩
  rw [← h1.2]; exact h2

theorem firstGo_range (l : List Int) : ∀ i : Int, firstGo l i = -1 ∨ (i ≤ firstGo l i ∧ firstGo l i < i + l.length) := by
 induction l with
 | nil => intro i; left; rfl
 | cons a l ih =>
  intro i
  simp only [firstGo]
  split
  ·right; simp; omega
  ·rcases ih (i + 1) with h | h
   ·left; exact h
   ·right; simp; omega
theorem foldl_min_num (l : List Int) : ∀ z : Int, Num z → (∀ x ∈ l, Num x) → Num (l.foldl min z) := by
 induction l with
 | nil => intro z hz _; exact hz
 | cons a l ih =>
  intro z hz h
  refine ih _ ?_ (fun x hx => h x (by simp [hx]))
  have := h a (by simp)
  unfold Num at *
  omega
theorem twoGo_num (l : List Int) : ∀ a b : Int, Num a → Num b → (∀ x ∈ l, Num x) → Num (twoGo l a b).1 ∧ Num (twoGo l a b).2 := by
 induction l with
 | nil => intro a b ha hb _; exact ⟨ha, hb⟩
 | cons x l ih =>
  intro a b ha hb h
  have hx := h x (by simp)
  have hr : ∀ y ∈ l, Num y := fun y hy => h y (by simp [hy])
  simp only [twoGo]
  split
  ·exact ih _ _ hx ha hr
  ·refine ih _ _ ha ?_ hr
   unfold Num at *
   omega
theorem foldF_num {op : Int} {l : List Int} (hn : ∀ x ∈ l, Num x) (hl : l.length ≤ 1000) : Num (foldF op l) := by
 unfold foldF
 split
 ·exact truthI_num _
 split
 ·exact truthI_num _
 split
 ·have := countF_le l; unfold Num; omega
 split
 ·have := firstGo_range l 0; unfold Num; omega
 split
 ·exact foldl_min_num l _ (by unfold Num; omega) hn
 split
 ·exact (twoGo_num l _ _ (by unfold Num; omega) (by unfold Num; omega) hn).1
 split
 ·exact satF_num _
 split
 ·have h1 := mexGo_eq l (cntGe l 0) 0 (Nat.le_refl _)
  have h2 := cntGe_le l 0
  unfold mexF Num
  omega
 split
 ·exact (twoGo_num l _ _ (by unfold Num; omega) (by unfold Num; omega) hn).2
 ·cases l with
  | nil => unfold Num; simp
  | cons a l => exact hn a (by simp)
theorem unaryF_num {op a : Int} (h : Num a) : Num (unaryF op a) := by
 unfold unaryF
 split
 ·unfold Num at *; omega
 ·exact truthI_num _
theorem binaryF_num {op a b : Int} : Num (binaryF op a b) := satF_num _

/-- A configuration on a graph that it fits, and a node. -/
structure SOK (p : Prg) (g : Graph) (c : Config) (v : Nat) : Prop where
 fits : fitsF p g = 0
 conf : confB (tableF p g) c = true
 node : v < g.ports.length
theorem SOK.gok {p : Prg} {g : Graph} {c : Config} {v : Nat} (h : SOK p g c v) : GOK g := (fits_zero h.fits).2.1
theorem SOK.len {p : Prg} {g : Graph} {c : Config} {v : Nat} (h : SOK p g c v) : c.length = g.ports.length := by
 rw [(confB_iff.1 h.conf).1, tableF_length, h.gok.ids]
theorem SOK.row {p : Prg} {g : Graph} {c : Config} {v : Nat} (h : SOK p g c v) {u : Nat} (hu : u < g.ports.length) : (c[u]'(by rw [h.len]; exact hu)).length = p.vars.length := by
 have := (confB_iff.1 h.conf).2 u (by rw [h.len]; exact hu) (by rw [tableF_length, h.gok.ids]; exact hu)
 rw [tableF_at] at this
 have := (stateB_iff.1 this).1
 rwa [rowF_length] at this
theorem SOK.val {p : Prg} {g : Graph} {c : Config} {v : Nat} (h : SOK p g c v) {u i : Nat} (hu : u < g.ports.length) (hi : i < p.vars.length) :
  (boundsF p.vars[i] g u).1 ≤ (c[u]'(by rw [h.len]; exact hu))[i]'(by rw [h.row hu]; exact hi) ∧ (c[u]'(by rw [h.len]; exact hu))[i]'(by rw [h.row hu]; exact hi) ≤ (boundsF p.vars[i] g u).2 := by
 have h1 := (confB_iff.1 h.conf).2 u (by rw [h.len]; exact hu) (by rw [tableF_length, h.gok.ids]; exact hu)
 rw [tableF_at] at h1
 have := (stateB_iff.1 h1).2 i (by rw [h.row hu]; exact hi) (by rw [rowF_length]; exact hi)
 rwa [rowF_at] at this
theorem SOK.small {p : Prg} {g : Graph} {c : Config} {v : Nat} (h : SOK p g c v) {u i : Nat} (hu : u < g.ports.length) (hi : i < p.vars.length) : Num ((c.getD u []).getD i 0) := by
 have h1 := h.val hu hi
 have h2 := bounds_small (List.all_eq_true.1 (check_numbers (fits_zero h.fits).1).1 _ (List.getElem_mem hi)) h.gok hu
 have e1 : c.getD u [] = c[u]'(by rw [h.len]; exact hu) := getD_eq (by rw [h.len]; exact hu)
 rw [e1, getD_eq (by rw [h.row hu]; exact hi)]
 unfold Num
 omega
/-- The link at a port of a node. -/
theorem link_at {g : Graph} (hg : GOK g) {v k : Nat} (hv : v < g.ports.length) (hk : k < g.ports[v].length) :
  linkF g v (k : Int) = g.ports[v][k] ∧ ∃ t : Nat, g.ports[v][k].to = (t : Int) ∧ t < g.ports.length ∧ 1 ≤ g.ports[v][k].weight ∧ g.ports[v][k].weight ≤ 15 ∧ g.ports[v].length < g.ports.length := by
 have h1 := hg.links v hv
 obtain ⟨a1, a2, a3, a4, a5⟩ := linkOK_iff.1 ((linksOK_iff.1 h1).1 _ (List.getElem_mem hk))
 obtain ⟨t, ht⟩ := Int.eq_ofNat_of_zero_le a1
 refine ⟨?_, t, ht, by omega, a4, a5, linksOK_len hv h1⟩
 unfold linkF
 rw [getD_eq hv, Int.toNat_natCast, getD_eq hk]
def portOK (g : Graph) (v : Nat) (b : Bool) (port : Int) : Prop := b = true → ∃ k : Nat, port = (k : Int) ∧ k < (g.ports.getD v []).length
theorem getD_mem_or {l : List Int} {k : Nat} {P : Int → Prop} (h0 : P 0) (h : ∀ x ∈ l, P x) : P (l.getD k 0) := by
 rw [List.getD_eq_getElem?_getD]
 cases hx : l[k]? with
 | none => exact h0
 | some x => exact h x (List.mem_of_getElem? hx)
theorem fact_num {g : Graph} (hg : GOK g) {op : Int} {v : Nat} {port : Int} {b : Bool} (hv : v < g.ports.length) (hop : 6 ≤ op ∧ op ≤ 17 ∧ op ≠ 12) (hb : nearOp op = true → b = true) (hp : portOK g v b port) : Num (factF g op v port) := by
 have hle := hg.le
 have hids := hg.ids
 obtain ⟨g1, g2⟩ := gmax_le255 hg
 have hid : ∀ k, Num (g.ids.getD k 0) := fun k => getD_mem_or (P := Num) (by unfold Num; omega) (fun x hx => by have := hg.idr x hx; unfold Num; omega)
 have hlen : ∀ u, (g.ports.getD u []).length ≤ 24 := fun u => by
  rcases Nat.lt_or_ge u g.ports.length with h | h
  ·rw [getD_eq h]; have := linksOK_len h (hg.links u h); omega
  ·rw [List.getD_eq_getElem?_getD, List.getElem?_eq_none h]; simp
 by_cases hn : 11 ≤ op
 ·have hnear : nearOp op = true := by unfold nearOp; simp; omega
  obtain ⟨k, rfl, hk⟩ := hp (hb hnear)
  rw [getD_eq hv] at hk
  obtain ⟨e, t, ht, htl, w1, w2, hl⟩ := link_at hg hv hk
  have hr := portF_range (g.ports.getD t []) (v : Int)
  have := hlen t
  have hlv := hlen v
  unfold factF
  rw [e, ht, Int.toNat_natCast]
  generalize g.ports[v][k].weight = wt at *
  generalize (g.ports.getD t []).length = len at *
  generalize portF (g.ports.getD t []) (v : Int) = pf at *
  generalize (g.ports.getD v []).length = lv at *
  generalize gmax g.ids = gm at *
  have n0 : Num (g.ids.length : Int) := by unfold Num; omega
  have n1 : Num gm := by unfold Num; omega
  have n2 : Num (lv : Int) := by unfold Num; omega
  have n3 : Num (k : Int) := by unfold Num; omega
  have n4 : Num (len : Int) := by unfold Num; omega
  have n5 : Num wt := by unfold Num; omega
  have n6 : Num pf := by unfold Num; omega
  by_cases c1 : op = 6
  ·rw [if_pos c1]; exact n0
  rw [if_neg c1]
  by_cases c2 : op = 7
  ·rw [if_pos c2]; exact n1
  rw [if_neg c2]
  by_cases c3 : op = 8
  ·rw [if_pos c3]; exact hid _
  rw [if_neg c3]
  by_cases c4 : op = 9
  ·rw [if_pos c4]; exact n2
  rw [if_neg c4]
  by_cases c5 : op = 10
  ·rw [if_pos c5]; exact truthI_num _
  rw [if_neg c5]
  by_cases c6 : op = 11
  ·rw [if_pos c6]; exact n3
  rw [if_neg c6]
  by_cases c7 : op = 13
  ·rw [if_pos c7]; exact hid _
  rw [if_neg c7]
  by_cases c8 : op = 14
  ·rw [if_pos c8]; exact n4
  rw [if_neg c8]
  by_cases c9 : op = 15
  ·rw [if_pos c9]; exact truthI_num _
  rw [if_neg c9]
  by_cases c10 : op = 16
  ·rw [if_pos c10]; exact n5
  rw [if_neg c10]
  exact n6
 ·unfold factF
  have hlv := hlen v
  by_cases c1 : op = 6
  ·rw [if_pos c1]; unfold Num; omega
  rw [if_neg c1]
  by_cases c2 : op = 7
  ·rw [if_pos c2]; unfold Num; omega
  rw [if_neg c2]
  by_cases c3 : op = 8
  ·rw [if_pos c3]; exact hid _
  rw [if_neg c3]
  by_cases c4 : op = 9
  ·rw [if_pos c4]; unfold Num; omega
  rw [if_neg c4]
  by_cases c5 : op = 10
  ·rw [if_pos c5]; exact truthI_num _
  exfalso; omega
theorem leaf_num {p : Prg} {g : Graph} {c : Config} {v : Nat} (h : SOK p g c v) {t : Term} {port : Int} {b : Bool} (har : arity t.op = 0) (ha : argF t p.vars.length = true) (hb : nearOp t.op = true → b = true) (hp : portOK g v b port) : Num (leafF g c v port t) := by
 have hr := (arity_bounds t.op).1 har
 obtain ⟨op, arg⟩ := t
 dsimp only at *
 unfold leafF
 dsimp only
 by_cases h1 : op = 1
 ·rw [if_pos h1]
  subst h1
  have hd : decide (0 ≤ arg ∧ arg ≤ 1073741824) = true := ha
  have := of_decide_eq_true hd
  unfold Num; omega
 rw [if_neg h1]
 split
 ·unfold Num; omega
 split
 ·unfold Num; omega
 split
 ·unfold Num; omega
 split
 ·rename_i h5
  obtain ⟨a1, a2⟩ := arg_var ha (.inl h5)
  obtain ⟨a, rfl⟩ := Int.eq_ofNat_of_zero_le a1
  rw [Int.toNat_natCast]
  exact h.small h.node (by omega)
 split
 ·rename_i h12
  obtain ⟨a1, a2⟩ := arg_var ha (.inr h12)
  obtain ⟨a, rfl⟩ := Int.eq_ofNat_of_zero_le a1
  obtain ⟨k, rfl, hk⟩ := hp (hb (by unfold nearOp; simp; omega))
  rw [getD_eq h.node] at hk
  obtain ⟨e, t, ht, htl, _⟩ := link_at h.gok h.node hk
  rw [e, ht, Int.toNat_natCast, Int.toNat_natCast]
  exact h.small htl (by omega)
 ·rename_i h2 h3 h4 h5 h12
  exact fact_num h.gok h.node (by omega) hb hp
theorem ports_len {g : Graph} (hg : GOK g) {v : Nat} (hv : v < g.ports.length) : (g.ports.getD v []).length < 24 := by
 rw [getD_eq hv]; have := linksOK_len hv (hg.links v hv); have := hg.le; omega
theorem eval_num {p : Prg} {g : Graph} {c : Config} {v : Nat} (h : SOK p g c v) {x : Ex} (hx : x.ok) (ha : ∀ t ∈ x.terms, argF t p.vars.length = true) : ∀ {b : Bool} {port : Int}, boundOK b x → portOK g v b port → Num (evalF g c v port x) := by
 induction x with
 | leaf t => intro b port hb hp; exact leaf_num h hx (ha t (by simp [Ex.terms])) hb hp
 | un t a ih =>
  intro b port hb hp
  have ha' : ∀ s ∈ a.terms, argF s p.vars.length = true := fun s hs => ha s (by simp [Ex.terms, hs])
  simp only [evalF]
  split
  ·rename_i hag
   refine foldF_num (fun y hy => ?_) (by rw [List.length_map, List.length_range]; have := ports_len h.gok h.node; omega)
   obtain ⟨k, hk, rfl⟩ := List.mem_map.1 hy
   rw [List.mem_range] at hk
   refine ih hx.2 ha' (b := true) ?_ (fun _ => ⟨k, rfl, hk⟩)
   have hb' : boundOK (b || aggregate t.op) a := hb
   rwa [hag, Bool.or_true] at hb'
  ·rename_i hag
   refine unaryF_num (ih hx.2 ha' (b := b) ?_ hp)
   have hb' : boundOK (b || aggregate t.op) a := hb
   rwa [show aggregate t.op = false by simpa using hag, Bool.or_false] at hb'
 | bin t x y ihx ihy => intro b port hb hp; exact binaryF_num
 | tri t x y z ihx ihy ihz =>
  intro b port hb hp
  simp only [evalF]
  obtain ⟨_, _, o2, o3⟩ := hx
  split
  ·exact ihy o2 (fun s hs => ha s (by simp [Ex.terms, hs])) hb.2.1 hp
  ·exact ihz o3 (fun s hs => ha s (by simp [Ex.terms, hs])) hb.2.2 hp

end Go.Proofs.YtgemlgpjbclonaaGreatDoor

/- Plain laws of evaluation: the values of Bool and Port expressions; values depend on the node and its neighbours alone. -/
namespace Go.Proofs.YtgemlgpjbclonaaGreatDoor

/-! ### Locality -/
theorem leaf_local {g : Graph} {c d : Config} {v : Nat} (hg : GOK g) (hv : v < g.ports.length) (hown : c.getD v [] = d.getD v []) (hnear : ∀ l ∈ g.ports.getD v [], c.getD l.to.toNat [] = d.getD l.to.toNat []) {t : Term} {port : Int} {b : Bool} (hb : nearOp t.op = true → b = true) (hp : portOK g v b port) : leafF g c v port t = leafF g d v port t := by
 unfold leafF
 rw [hown]
 by_cases h12 : t.op = 12
 ·obtain ⟨k, rfl, hk⟩ := hp (hb (by unfold nearOp; simp; omega))
  rw [getD_eq hv] at hk hnear
  obtain ⟨e, t, ht, htl, _⟩ := link_at hg hv hk
  rw [e, hnear _ (List.getElem_mem hk)]
 ·rw [if_neg h12, if_neg h12]
theorem eval_local {g : Graph} {c d : Config} {v : Nat} (hg : GOK g) (hv : v < g.ports.length) (hown : c.getD v [] = d.getD v []) (hnear : ∀ l ∈ g.ports.getD v [], c.getD l.to.toNat [] = d.getD l.to.toNat []) {x : Ex} : ∀ {b : Bool} {port : Int}, boundOK b x → portOK g v b port → evalF g c v port x = evalF g d v port x := by
 induction x with
 | leaf t => intro b port hb hp; exact leaf_local hg hv hown hnear hb hp
 | un t a ih =>
  intro b port hb hp
  have hb' : boundOK (b || aggregate t.op) a := hb
  simp only [evalF]
  split
  ·rename_i hag
   rw [hag, Bool.or_true] at hb'
   congr 1
   refine List.map_congr_left fun k hk => ?_
   rw [List.mem_range] at hk
   exact ih hb' (fun _ => ⟨k, rfl, hk⟩)
  ·rename_i hag
   rw [show aggregate t.op = false by simpa using hag, Bool.or_false] at hb'
   rw [ih hb' hp]
 | bin t x y ihx ihy => intro b port hb hp; simp only [evalF]; rw [ihx hb.1 hp, ihy hb.2 hp]
 | tri t x y z ihx ihy ihz => intro b port hb hp; simp only [evalF]; rw [ihx hb.1 hp, ihy hb.2.1 hp, ihz hb.2.2 hp]

end Go.Proofs.YtgemlgpjbclonaaGreatDoor

/- Contracts: the reference's Fact and leaf. -/
namespace Go.Proofs.YtgemlgpjbclonaaGreatDoor
open Go.RowKit

theorem fact_op {op : Int} (h : 6 ≤ op ∧ op ≤ 17 ∧ op ≠ 12) : (op = 6 ∨ op = 7 ∨ op = 8 ∨ op = 9 ∨ op = 10 ∨ op = 11) ∨ (op = 13 ∨ op = 14 ∨ op = 15 ∨ op = 16 ∨ op = 17) := by omega

set_option maxRecDepth 100000 in
set_option maxHeartbeats 2000000 in
theorem refFact_any (v2 : Value) (g : Graph) (op : Int) (v : Nat) (port : Int) (b : Bool) (w : World) (h2 : GraphV w v2 g) (hg : GOK g) (hv : v < g.ports.length) (hop : 6 ≤ op ∧ op ≤ 17 ∧ op ≠ 12) (hb : nearOp op = true → b = true) (hp : portOK g v b port) :
  Calls Tryz.prog 123 #[v2, .int .i64 op, .int .i64 v, .int .i64 port] w fun e w' => e = .returned (.int .i64 (factF g op v port)) ∧ Bel w w' := by
 have HGV := Lib.hid (fun w' (k : Bel w w') => h2.keep k)
 obtain ⟨A, k, A2, k2, rfl, hI, _, _, hP, _, _⟩ := h2
 have hids := hg.ids
 have hle := hg.le
 have hvi : v < g.ids.length := by omega
 have hl1000 : g.ids.length ≤ 1000 := by omega
 obtain ⟨b1, o1, rfl, hb1, hid⟩ := hI.at_ v hvi
 obtain ⟨b2, o2, R, rc, rfl, hb2, hrow, hL, _, _⟩ := hP.at_ v hv
 have HB := (Bel.refl w).alloc (.cells #[.slice (some ⟨b1, o1, none⟩) g.ids.length k, .slice (some ⟨b2, o2, none⟩) g.ports.length k2] 29)
 have hdv : decide (v < g.ports.length) = true := by simpa using hv
 have hdi : decide (v < g.ids.length) = true := by simpa using hvi
 have HID := Lib.hid hids
 clear hids
 rcases fact_op hop with (rfl | rfl | rfl | rfl | rfl | rfl) | hnear
 ·have HF : Hid (factF g 6 v port = g.ports.length) := by show factF g 6 v port = _; unfold factF; rw [if_pos rfl, HID.out]
  clear hI hP hb hp hop
  go_enter Tryz.func123, Tryz.ntmps123
  go_wp2
  go_ret
  exact ⟨ret_int HF.out.symm, HB⟩
 ·clear hI hP hb hp hop
  have HF : Hid (factF g 7 v port = gmax g.ids) := rfl
  go_enter Tryz.func123, Tryz.ntmps123
  go_wp2_with (go_at_call 97; refine (greatest_any _ g _ (HGV.out _ HB) hl1000).mono ?_; rintro e w' ⟨rfl, hbb⟩; replace HB := HB.trans hbb; clear hbb)
  go_ret
  exact ⟨ret_int HF.out.symm, HB⟩
 ·have HF : Hid (factF g 8 v port = g.ids[v]) := getD_eq hvi
  clear hI hP hb hp hop
  go_enter Tryz.func123, Tryz.ntmps123
  go_wp2
  go_ret
  exact ⟨ret_int HF.out.symm, HB⟩
 ·have HF : Hid (factF g 9 v port = (g.ports[v].length : Int)) := by show factF g 9 v port = _; rw [← getD_eq (d := []) hv]; rfl
  clear hI hP hb hp hop
  go_enter Tryz.func123, Tryz.ntmps123
  go_wp2
  go_ret
  exact ⟨ret_int HF.out.symm, HB⟩
 ·have HF : Hid (factF g 10 v port = truthI (decide (v = 0))) := rfl
  obtain ⟨z, hz⟩ : ∃ z, decide (v = 0) = z := ⟨_, rfl⟩
  rw [hz] at HF
  have hz1 : ((v : Int) == 0) = z := by rw [← hz, Bool.eq_iff_iff]; simp
  have hz2 : (v == 0) = z := by rw [← hz, Bool.eq_iff_iff]; simp
  clear hI hP hb hp hop hz
  go_enter Tryz.func123, Tryz.ntmps123
  go_wp2_with (go_at_call 124; refine (refTruth_any _ _).mono ?_; rintro e w' ⟨rfl, rfl⟩)
  go_ret
  exact ⟨ret_int HF.out.symm, HB⟩
 ·have HF : Hid (factF g 11 v port = port) := rfl
  clear hI hP hb hp hop
  go_enter Tryz.func123, Tryz.ntmps123
  go_wp2
  go_ret
  exact ⟨ret_int HF.out.symm, HB⟩
 ·obtain ⟨q, rfl, hq⟩ := hp (hb (by unfold nearOp; simp; omega))
  rw [getD_eq hv] at hq
  obtain ⟨e, t, ht, htl, _⟩ := link_at hg hv hq
  obtain ⟨b3, o3, rfl, hb3, hto, hwe⟩ := hL.at_ q hq
  have hti : t < g.ids.length := by rw [HID.out]; exact htl
  obtain ⟨b4, o4, e4, _, hid4⟩ := hI.at_ t hti
  obtain ⟨rfl, rfl⟩ : b1 = b4 ∧ o1 = o4 := by simpa using e4
  obtain ⟨b5, o5, R5, rc5, e5, _, hrow5, _, _, _⟩ := hP.at_ t htl
  obtain ⟨rfl, rfl⟩ : b2 = b5 ∧ o2 = o5 := by simpa using e5
  rw [ht] at hto
  have hdt : decide (t < g.ports.length) = true := by simpa using htl
  have hdti : decide (t < g.ids.length) = true := by simpa using hti
  have hdq : decide (q < g.ports[v].length) = true := by simpa using hq
  have HE := Lib.hid e
  have HT := Lib.hid ht
  clear hI hP hb hp hop e4 e5 e ht hL
  rcases hnear with rfl | rfl | rfl | rfl | rfl
  ·have HF : Hid (factF g 13 v (q : Int) = g.ids[t]) := by show g.ids.getD (linkF g v q).to.toNat 0 = _; rw [HE.out, HT.out, Int.toNat_natCast, getD_eq hti]
   go_enter Tryz.func123, Tryz.ntmps123
   go_wp2
   go_ret
   exact ⟨ret_int HF.out.symm, HB⟩
  ·have HF : Hid (factF g 14 v (q : Int) = (g.ports[t].length : Int)) := by show ((g.ports.getD (linkF g v q).to.toNat []).length : Int) = _; rw [HE.out, HT.out, Int.toNat_natCast, getD_eq htl]
   go_enter Tryz.func123, Tryz.ntmps123
   go_wp2
   go_ret
   exact ⟨ret_int HF.out.symm, HB⟩
  ·have HF : Hid (factF g 15 v (q : Int) = truthI (decide ((t : Int) = 0))) := by show truthI (decide ((linkF g v q).to = 0)) = _; rw [HE.out, HT.out]
   obtain ⟨z, hz⟩ : ∃ z, decide ((t : Int) = 0) = z := ⟨_, rfl⟩
   rw [hz] at HF
   have hz1 : ((t : Int) == 0) = z := by rw [← hz, Bool.eq_iff_iff]; simp
   have hz2 : (t == 0) = z := by rw [← hz, Bool.eq_iff_iff]; simp
   clear hz
   go_enter Tryz.func123, Tryz.ntmps123
   go_wp2_with (go_at_call 124; refine (refTruth_any _ _).mono ?_; rintro e w' ⟨rfl, rfl⟩)
   go_ret
   exact ⟨ret_int HF.out.symm, HB⟩
  ·have HF : Hid (factF g 16 v (q : Int) = g.ports[v][q].weight) := by show (linkF g v q).weight = _; rw [HE.out]
   go_enter Tryz.func123, Tryz.ntmps123
   go_wp2
   go_ret
   exact ⟨ret_int HF.out.symm, HB⟩
  ·have HF : Hid (factF g 17 v (q : Int) = portF g.ports[t] v) := by show portF (g.ports.getD (linkF g v q).to.toNat []) v = _; rw [HE.out, HT.out, Int.toNat_natCast, getD_eq htl]
   go_enter Tryz.func123, Tryz.ntmps123
   go_wp2_with (go_at_call 83; refine (port01_any _ g t (v : Int) _ (HGV.out _ HB) htl).mono ?_; rintro e w' ⟨rfl, hbb⟩; replace HB := HB.trans hbb; clear hbb)
   go_ret
   exact ⟨ret_int HF.out.symm, HB⟩

theorem leaf_op {op : Int} (h : 1 ≤ op ∧ op ≤ 17) : (op = 1 ∨ op = 2 ∨ op = 3 ∨ op = 4) ∨ op = 5 ∨ op = 12 ∨ (6 ≤ op ∧ op ≤ 17 ∧ op ≠ 12) := by omega

set_option maxRecDepth 100000 in
set_option maxHeartbeats 2000000 in
theorem refLeafV_any (v2 : Value) (p : Prg) (g : Graph) (v3 : Value) (c : Config) (v : Nat) (port : Int) (t : Term) (b : Bool) (w : World) (h2 : GraphV w v2 g) (h3 : ConfV w v3 c) (hs : SOK p g c v) (har : arity t.op = 0) (ha : argF t p.vars.length = true) (hb : nearOp t.op = true → b = true) (hp : portOK g v b port) :
  Calls Tryz.prog 101 #[v2, v3, .int .i64 v, .int .i64 port, .agg #[.int .i64 t.op, .int .i64 t.arg]] w fun e w' => e = .returned (.int .i64 (leafF g c v port t)) ∧ Bel w w' := by
 have hr := (arity_bounds t.op).1 har
 have HGV := Lib.hid (fun w' (k : Bel w w') => h2.keep k)
 obtain ⟨A, k, A2, k2, rfl, hI, _, _, hP, _, _⟩ := h2
 obtain ⟨A3, k3, rfl, hC, _, _⟩ := h3
 obtain ⟨op, arg⟩ := t
 dsimp only at *
 have hv := hs.node
 have hdv : decide (v < c.length) = true := by simp [hs.len, hv]
 have HB := ((Bel.refl w).alloc (.cells #[.slice A g.ids.length k, .slice A2 g.ports.length k2] 29)).alloc (.cells #[.int .i64 op, .int .i64 arg] 110)
 rcases leaf_op hr with hq | rfl | rfl | hq
 ·clear hI hP hC hb hp har
  have HF : Hid (leafF g c v port ⟨op, arg⟩ = if op = 1 then arg else if op = 2 then 1 else if op = 3 then 0 else -1) := by
   show leafF g c v port ⟨op, arg⟩ = _
   unfold leafF
   rcases hq with rfl | rfl | rfl | rfl <;> simp
  rcases hq with rfl | rfl | rfl | rfl
  all_goals
   go_enter Tryz.func101, Tryz.ntmps101
   go_wp2
   go_ret
   exact ⟨ret_int HF.out.symm, HB⟩
 ·obtain ⟨a1, a2⟩ := arg_var ha (.inl rfl)
  obtain ⟨a, rfl⟩ := Int.eq_ofNat_of_zero_le a1
  have hvc : v < c.length := by rw [hs.len]; exact hv
  have hac : a < c[v].length := by rw [hs.row hv]; omega
  obtain ⟨b1, o1, R, rc, rfl, hb1, hrow, hR, _, _⟩ := hC.at_ v hvc
  obtain ⟨b2, o2, rfl, hb2, hval⟩ := hR.at_ a hac
  have HF : Hid (leafF g c v port ⟨5, (a : Int)⟩ = c[v][a]) := by
   show (c.getD v []).getD (a : Int).toNat 0 = _
   rw [Int.toNat_natCast, getD_eq hvc, getD_eq hac]
  have hda : decide (a < c[v].length) = true := by simpa using hac
  clear hI hP hC hb hp har hR ha
  go_enter Tryz.func101, Tryz.ntmps101
  go_wp2
  go_quiet (fail)
  go_wp2
  go_ret
  exact ⟨ret_int HF.out.symm, HB.drewN _⟩
 ·obtain ⟨a1, a2⟩ := arg_var ha (.inr rfl)
  obtain ⟨a, rfl⟩ := Int.eq_ofNat_of_zero_le a1
  obtain ⟨q, rfl, hq⟩ := hp (hb (by unfold nearOp; simp))
  rw [getD_eq hv] at hq
  obtain ⟨e, t, ht, htl, _⟩ := link_at hs.gok hv hq
  obtain ⟨b3, o3, R3, rc3, rfl, hb3, hrow3, hL3, _, _⟩ := hP.at_ v hv
  obtain ⟨b4, o4, rfl, hb4, hto, _⟩ := hL3.at_ q hq
  rw [ht] at hto
  have htc : t < c.length := by rw [hs.len]; exact htl
  have hac : a < c[t].length := by rw [hs.row htl]; omega
  obtain ⟨b1, o1, R, rc, rfl, hb1, hrow, hR, _, _⟩ := hC.at_ t htc
  obtain ⟨b2, o2, rfl, hb2, hval⟩ := hR.at_ a hac
  have HF : Hid (leafF g c v (q : Int) ⟨12, (a : Int)⟩ = c[t][a]) := by
   show (c.getD (linkF g v q).to.toNat []).getD (a : Int).toNat 0 = _
   rw [e, ht, Int.toNat_natCast, Int.toNat_natCast, getD_eq htc, getD_eq hac]
  have hda : decide (a < c[t].length) = true := by simpa using hac
  have hdt : decide (t < c.length) = true := by simpa using htc
  have hdp : decide (v < g.ports.length) = true := by simpa using hv
  have hdq : decide (q < g.ports[v].length) = true := by simpa using hq
  clear hI hP hC hb hp har hR ha hL3 e ht
  go_enter Tryz.func101, Tryz.ntmps101
  go_wp2
  go_quiet (fail)
  go_wp2
  go_ret
  exact ⟨ret_int HF.out.symm, HB.drewN _⟩
 ·have HF : Hid (leafF g c v port ⟨op, arg⟩ = factF g op v port) := by
   show leafF g c v port ⟨op, arg⟩ = _
   unfold leafF
   dsimp only
   rw [if_neg (by omega), if_neg (by omega), if_neg (by omega), if_neg (by omega), if_neg (by omega), if_neg (by omega)]
  have e1 : (op == 1) = false := by simp; omega
  have e2 : (op == 2) = false := by simp; omega
  have e3 : (op == 3) = false := by simp; omega
  have e4 : (op == 4) = false := by simp; omega
  have e5 : (op == 5) = false := by simp; omega
  have e12 : (op == 12) = false := by simp; omega
  have HG := Lib.hid hs.gok
  have HQ := Lib.hid hq
  have HBB := Lib.hid hb
  have HPP := Lib.hid hp
  clear hI hP hC hb hp har ha hq
  go_enter Tryz.func101, Tryz.ntmps101
  go_wp2_with (go_at_call 123; refine (refFact_any _ g op v port b _ (HGV.out _ HB) HG.out hv HQ.out HBB.out HPP.out).mono ?_; rintro e w' ⟨rfl, hbb⟩; replace HB := HB.trans hbb; clear hbb)
  go_ret
  exact ⟨ret_int HF.out.symm, HB⟩

end Go.Proofs.YtgemlgpjbclonaaGreatDoor

/- Contract: the reference's At. -/
namespace Go.Proofs.YtgemlgpjbclonaaGreatDoor
open Go.RowKit

theorem terms_mem {es : List Term} {k : Nat} {x : Ex} (h : x.At es k) : ∀ t ∈ x.terms, t ∈ es := by
 obtain ⟨_, r, hr⟩ := h
 intro t ht
 have : t ∈ es.drop k := by rw [hr]; exact List.mem_append_left _ ht
 exact List.mem_of_mem_drop this
def AtOk (p : Prg) (g : Graph) (c : Config) (v : Nat) (x : Ex) : Prop :=
 ∀ (b : Bool) (port : Int) (gv cv : Value) (A : Option Addr) (ce : Nat) (es : List Term) (k : Nat) (w : World), GraphV w gv g → ConfV w cv c → TermsR w A es.length es → x.At es k → (∀ t ∈ es, argF t p.vars.length = true) → es.length ≤ 1000 → boundOK b x → portOK g v b port →
  Calls Tryz.prog 81 #[gv, cv, .int .i64 v, .int .i64 port, .slice A es.length ce, .int .i64 k] w fun e w' => e = .returned (.int .i64 (evalF g c v port x)) ∧ Bel w w'


set_option maxRecDepth 100000 in
set_option maxHeartbeats 4000000 in
theorem at_any (p : Prg) (g : Graph) (c : Config) (v : Nat) (hs : SOK p g c v) (x : Ex) : AtOk p g c v x := by
 induction x with
 | leaf t =>
  intro b port gv cv A ce es k w hgv hcv hT hat harg hlen hbo hpo
  have hlt := At.lt hat
  obtain ⟨hh, har⟩ := At.leaf hat
  obtain ⟨b1, o1, rfl, hb1, c1, c2⟩ := hT.at_ k hlt
  have hhe : es[k] = t := by rw [List.getElem?_eq_getElem hlt] at hh; simpa using hh
  rw [hhe] at c1 c2
  have HARG := Lib.hid (show argF t p.vars.length = true by rw [← hhe]; exact harg _ (List.getElem_mem hlt))
  have HGV := Lib.hid (fun w' (k : Bel w w') => hgv.keep k)
  have HCV := Lib.hid (fun w' (k : Bel w w') => hcv.keep k)
  obtain ⟨A2, k2, A3, k3, rfl, _, _, _, _, _, _⟩ := hgv
  obtain ⟨A4, k4, rfl, _, _, _⟩ := hcv
  have HAR := Lib.hid har
  have HBO := Lib.hid (show nearOp t.op = true → b = true from hbo)
  have HPO := Lib.hid hpo
  have HS := Lib.hid hs
  have HB := Bel.refl (w.alloc (.cells #[.slice A2 g.ids.length k2, .slice A3 g.ports.length k3] 29))
  have hcell := Lib.hid (fun w' (kk : Bel (w.alloc (.cells #[.slice A2 g.ids.length k2, .slice A3 g.ports.length k3] 29)) w') => And.intro (box_cell kk 0 (v := .slice A2 g.ids.length k2) rfl) (And.intro (box_cell kk 1 (v := .slice A3 g.ports.length k3) rfl) (And.intro (((box_bel kk).cell hb1).trans c1) (And.intro (((box_bel kk).cell hb1).trans c2) (box_lt kk)))))
  have hdk : decide (k < es.length) = true := by simpa using hlt
  have hk0 : (0 : Int) ≤ (k : Int) := by omega
  have hk1 : (k : Int) < (es.length : Int) := by omega
  clear hh hhe harg hT har hat hbo hpo
  go_enter Tryz.func81, Tryz.ntmps81
  go_wp2_with (go_at_call 100; refine (refArity_any _ _).mono ?_; rintro e w' ⟨rfl, rfl⟩; rw [HAR.out])
  replace HB := HB.drew
  go_region_held3 (fun w' => w'.cell? ⟨w.heap.size, 0, none⟩ = some (.slice A2 g.ids.length k2) ∧ w'.cell? ⟨w.heap.size, 1, none⟩ = some (.slice A3 g.ports.length k3) ∧ w'.cell? ⟨b1, o1 + k * 2, none⟩ = some (.int .i64 t.op) ∧ w'.cell? ⟨b1, o1 + k * 2 + 1, none⟩ = some (.int .i64 t.arg) ∧ w.heap.size < w'.heap.size) (exact hcell.out _ HB) (first | (go_simp; go_at_call 101; refine (refLeafV_any _ p g _ c v port t b _ (HGV.out _ (box_bel HB)) (HCV.out _ (box_bel HB)) HS.out HAR.out HARG.out HBO.out HPO.out).mono ?_; rintro e w' ⟨rfl, hbb⟩; replace HB := HB.trans hbb; clear hbb))
  go_wp2_with fail
  go_ret
  exact ⟨rfl, box_bel HB⟩
 | un t a ih =>
  intro b port gv cv A ce es k w hgv hcv hT hat harg hlen hbo hpo
  have hlt := At.lt hat
  obtain ⟨hh, har, ha⟩ := At.un hat
  have hbd := At.bound ha
  obtain ⟨b1, o1, rfl, hb1, c1, c2⟩ := hT.at_ k hlt
  have hhe : es[k] = t := by rw [List.getElem?_eq_getElem hlt] at hh; simpa using hh
  rw [hhe] at c1 c2
  have HGV := Lib.hid (fun w' (k : Bel w w') => hgv.keep k)
  have HCV := Lib.hid (fun w' (k : Bel w w') => hcv.keep k)
  have HT := Lib.hid (fun w' (k : Bel w w') => TermsR.keep hT k)
  obtain ⟨A2, k2, A3, k3, rfl, _, _, _, hP, _, _⟩ := hgv
  obtain ⟨A4, k4, rfl, _, _, _⟩ := hcv
  have HP := Lib.hid (fun w' (k : Bel w w') => PortsR.keep hP k)
  have HAR := Lib.hid har
  have HARG := Lib.hid harg
  have HIH := Lib.hid ih
  have HATA := Lib.hid ha
  have hv := hs.node
  have hop := (arity_bounds t.op).2.1 har
  have HB := Bel.refl (w.alloc (.cells #[.slice A2 g.ids.length k2, .slice A3 g.ports.length k3] 29))
  have HNA := Lib.hid (fun (b' : Bool) (q : Int) (h1 : boundOK b' a) (h2 : portOK g v b' q) => eval_num hs ha.1 (fun t ht => harg t (terms_mem ha t ht)) h1 h2)
  cases hag : aggregate t.op with
  | true =>
   have HBO : Hid (boundOK true a) := by
    have hb' : boundOK (b || aggregate t.op) a := hbo
    rw [hag, Bool.or_true] at hb'; exact hb'
   have HE : Hid (evalF g c v port (.un t a) = foldF t.op ((List.range g.ports[v].length).map fun (q : Nat) => evalF g c v (q : Int) a)) := by
    show evalF g c v port (.un t a) = _
    simp only [evalF, hag, if_true]
    rw [getD_eq hv]
   have hrl : g.ports[v].length ≤ 24 := by have := linksOK_len hv (hs.gok.links v hv); have := hs.gok.le; omega
   obtain ⟨hop1, hop2⟩ : 20 ≤ t.op ∧ t.op ≤ 29 := by unfold aggregate at hag; exact of_decide_eq_true hag
   have HAG := Lib.hid hag
   obtain ⟨i0, hi0, hz0, hz1, hz2⟩ := info_parts int_info
   have HPK : Hid (∀ q : Nat, q < g.ports[v].length → portOK g v true (q : Int)) := fun q hq _ => ⟨q, rfl, by rw [getD_eq hv]; exact hq⟩
   clear hh hhe harg hT har hat hbo hpo hP ih ha hag
   go_enter Tryz.func81, Tryz.ntmps81
   go_wp2_with (first
    | (go_at_call 100; refine (refArity_any _ _).mono ?_; rintro e w' ⟨rfl, rfl⟩; rw [HAR.out])
    | (go_at_call 102; refine (refAggregate_any _ _).mono ?_; rintro e w' ⟨rfl, rfl⟩; rw [HAG.out]))
   go_loopg [14, 15] g.ports[v].length (fun m s z wr => ∃ (j : Nat) (R : Option Addr) (rc : Nat), j ≤ g.ports[v].length ∧ m = g.ports[v].length - j ∧ z = .int .i64 j ∧ s = .slice R j rc ∧ Hid (wr.ownsRow (w.heap.size + 1) 3 1 (.slice R j rc) j (((List.range j).map fun (q : Nat) => evalF g c v (q : Int) a).map (Value.int .i64))) ∧ Bel (w.alloc (.cells #[.slice A2 g.ids.length k2, .slice A3 g.ports.length k3] 29)) wr)
   case atStart => exact ⟨0, none, 0, by omega, rfl, rfl, rfl, World.ownsRow_nil _ _ _ _, HB⟩
   case round =>
    clear HB
    obtain ⟨j, R, rc, hj, rfl, rfl, rfl, HO, HB⟩ := hrel
    have q0 := box_cell HB 0 rfl
    have q1 := box_cell HB 1 rfl
    have q2 := box_lt HB
    obtain ⟨b2, o2, R2, rc2, rfl, hb2, hrow, _, _, _⟩ := (HP.out _ (box_bel HB)).at_ v hv
    have hdv : decide (v < g.ports.length) = true := by simpa using hv
    by_cases hlt2 : j < g.ports[v].length
    ·have hd0 : decide (j < g.ports[v].length) = true := by simpa using hlt2
     have HST : Hid (((List.range (j + 1)).map fun (q : Nat) => evalF g c v (q : Int) a).map (Value.int .i64) = ((List.range j).map fun (q : Nat) => evalF g c v (q : Int) a).map (Value.int .i64) ++ [.int .i64 (evalF g c v (j : Int) a)]) := by
      show ((List.range (j + 1)).map fun (q : Nat) => evalF g c v (q : Int) a).map (Value.int .i64) = _
      rw [List.range_succ, List.map_append, List.map_append]; rfl
     go_wp2_with fail
     refine (HIH.out true (j : Int) _ _ _ _ es (k + 1) _ (HGV.out _ (box_bel HB)) (HCV.out _ (box_bel HB)) (HT.out _ (box_bel HB)) HATA.out HARG.out hlen HBO.out (HPK.out j hlt2)).mono ?_
     rintro e w4 ⟨rfl, hbb⟩
     replace HB := HB.trans hbb
     replace HO := Lib.hid (hbb.owns HO.out)
     clear hbb q0 q1 q2 hb2 hrow
     have hsz := box_lt HB
     go_wp2_with (at_builtin; refine wpList_push _ rfl (.tmp 52) (.tmp 61) 26 rfl (w.heap.size + 1) 3 i0 (.int .i64 0) 1 8 Tryz.underlying26 hi0 hz0 hz1 hz2 rfl (by decide) R j rc _ (by simp [Act.eval]) (HO.out.alloc _) w4.heap.size #[.int .i64 (evalF g c v (j : Int) a)] 3 (0, 0) (by simp [Act.eval]) (heap_new _ _) rfl (one_int _ _) (by unfold maxLen; omega) (by omega) (by simp; omega) ?_; intro R2 rc2 w5 hown hgr hat; have HB2 := (HB.alloc _).pushB (HO.out.alloc _) (by simp) hgr; have HO2 := Lib.hid hown; clear hown hgr hat)
     go_roundg (g.ports[v].length - (j + 1))
     case rel =>
      refine ⟨j + 1, R2, rc2, by omega, rfl, by go_num, rfl, ?_, HB2⟩
      show World.ownsRow _ _ _ _ _ _ _
      rw [HST.out]; exact HO2.out
     case measure => omega
    ·obtain rfl : j = g.ports[v].length := by omega
     have hd0 : decide (g.ports[v].length < g.ports[v].length) = false := by simp
     have HI := Lib.hid (own_ints HO.out)
     have HNN : Hid (∀ y ∈ (List.range g.ports[v].length).map fun (q : Nat) => evalF g c v (q : Int) a, Num y) := by
      intro y hy
      obtain ⟨q, hq, rfl⟩ := List.mem_map.1 hy
      exact HNA.out true q HBO.out (HPK.out q (List.mem_range.1 hq))
     go_wp2_with (go_at_call 103; refine (refFold_any _ _ _ _ t.op _ HI.out (by omega) hop1 hop2 HNN.out).mono ?_; rintro e w' ⟨rfl, rfl⟩)
     go_ret
     exact ⟨ret_int HE.out.symm, box_bel HB⟩
  | false =>
   have HBO : Hid (boundOK b a) := by
    have hb' : boundOK (b || aggregate t.op) a := hbo
    rw [hag, Bool.or_false] at hb'; exact hb'
   have HE : Hid (evalF g c v port (.un t a) = unaryF t.op (evalF g c v port a)) := by
    show evalF g c v port (.un t a) = _
    simp only [evalF, hag]; rfl
   have HUR : Hid ((unaryR t.op (evalF g c v port a)).1 = unaryF t.op (evalF g c v port a)) := by
    show (unaryR t.op (evalF g c v port a)).1 = _
    unfold unaryR
    have hnu := numB_true (HNA.out b port HBO.out hpo)
    unfold aggregate at hag
    have := of_decide_eq_false hag
    rw [if_neg (by rw [hnu]; simp; omega)]
   have HAG := Lib.hid hag
   have HPO := Lib.hid hpo
   clear hh hhe harg hT har hat hbo hpo hP ih ha hag
   go_enter Tryz.func81, Tryz.ntmps81
   go_wp2_with (first
    | (go_at_call 100; refine (refArity_any _ _).mono ?_; rintro e w' ⟨rfl, rfl⟩; rw [HAR.out])
    | (go_at_call 102; refine (refAggregate_any _ _).mono ?_; rintro e w' ⟨rfl, rfl⟩; rw [HAG.out])
    | (go_at_call 81; refine (HIH.out b port _ _ _ _ es (k + 1) _ (HGV.out _ (box_bel HB)) (HCV.out _ (box_bel HB)) (HT.out _ (box_bel HB)) HATA.out HARG.out hlen HBO.out HPO.out).mono ?_; rintro e w4 ⟨rfl, hbb⟩; replace HB := HB.trans hbb; clear hbb)
    | (go_at_call 104; refine (refUnary_any _ _ _).mono ?_; rintro e w' ⟨rfl, rfl⟩; rw [HUR.out]))
   go_ret
   exact ⟨ret_int HE.out.symm, box_bel HB⟩
 | bin t a d iha ihd =>
  intro b port gv cv A ce es k w hgv hcv hT hat harg hlen hbo hpo
  have hlt := At.lt hat
  obtain ⟨hh, har, ha, hd1⟩ := At.bin hat
  have hbd := At.bound ha
  have hbd2 := At.bound hd1
  have hopn := At.operand1 hat hh (by omega) ha
  obtain ⟨b1, o1, rfl, hb1, c1, c2⟩ := hT.at_ k hlt
  have hhe : es[k] = t := by rw [List.getElem?_eq_getElem hlt] at hh; simpa using hh
  rw [hhe] at c1 c2
  have HGV := Lib.hid (fun w' (k : Bel w w') => hgv.keep k)
  have HCV := Lib.hid (fun w' (k : Bel w w') => hcv.keep k)
  have HT := Lib.hid (fun w' (k : Bel w w') => TermsR.keep hT k)
  obtain ⟨A2, k2, A3, k3, rfl, _, _, _, _, _, _⟩ := hgv
  obtain ⟨A4, k4, rfl, _, _, _⟩ := hcv
  have HAR := Lib.hid har
  have HARG := Lib.hid harg
  have HPO := Lib.hid hpo
  have HI1 := Lib.hid iha
  have HI2 := Lib.hid ihd
  have HA1 := Lib.hid ha
  have HA2 := Lib.hid hd1
  have HOP := Lib.hid hopn
  have HB := Bel.refl (w.alloc (.cells #[.slice A2 g.ids.length k2, .slice A3 g.ports.length k3] 29))
  have hcell := Lib.hid (fun w' (kk : Bel (w.alloc (.cells #[.slice A2 g.ids.length k2, .slice A3 g.ports.length k3] 29)) w') => And.intro (box_cell kk 0 (v := .slice A2 g.ids.length k2) rfl) (And.intro (box_cell kk 1 (v := .slice A3 g.ports.length k3) rfl) (box_lt kk)))
  have hw1 : IntKind.i64.wrap ((k : Int) + 1) = (k : Int) + 1 := IntWalk.i64_in _ (by omega)
  have HK1 := Lib.hid (show (k : Int) + 1 = ((k + 1 : Nat) : Int) by omega)
  have HK2 := Lib.hid (show (k : Int) + 1 + (a.len : Int) = ((k + 1 + a.len : Nat) : Int) by omega)
  have HBO1 : Hid (boundOK b a) := hbo.1
  have HBO2 : Hid (boundOK b d) := hbo.2
  have hop := (arity_bounds t.op).2.2.1 har
  have HE : Hid ((binaryR t.op (evalF g c v port a) (evalF g c v port d)).1 = evalF g c v port (.bin t a d)) := by
   show (binaryR t.op (evalF g c v port a) (evalF g c v port d)).1 = binaryF t.op (evalF g c v port a) (evalF g c v port d)
   have n1 := numB_true (eval_num hs ha.1 (fun t ht => harg t (terms_mem ha t ht)) hbo.1 hpo)
   have n2 := numB_true (eval_num hs hd1.1 (fun t ht => harg t (terms_mem hd1 t ht)) hbo.2 hpo)
   unfold binaryR
   rw [if_neg (by rw [n1, n2]; simp; omega)]
  have hpa := a.pos
  have HC1 := Lib.hid (fun (i : Int) (w' : World) (hi : i = (k : Int) + 1) (kk : Bel w w') => show Calls Tryz.prog 81 #[.agg #[.slice A2 g.ids.length k2, .slice A3 g.ports.length k3], .slice A4 c.length k4, .int .i64 v, .int .i64 port, .slice (some ⟨b1, o1, none⟩) es.length ce, .int .i64 i] w' (fun e w2 => e = .returned (.int .i64 (evalF g c v port a)) ∧ Bel w' w2) by
   rw [hi]; exact HI1.out b port _ _ _ _ es (k + 1) _ (HGV.out _ kk) (HCV.out _ kk) (HT.out _ kk) HA1.out HARG.out hlen HBO1.out HPO.out)
  have HC2 := Lib.hid (fun (i : Int) (w' : World) (hi : i = (k : Int) + 1 + (a.len : Int)) (kk : Bel w w') => show Calls Tryz.prog 81 #[.agg #[.slice A2 g.ids.length k2, .slice A3 g.ports.length k3], .slice A4 c.length k4, .int .i64 v, .int .i64 port, .slice (some ⟨b1, o1, none⟩) es.length ce, .int .i64 i] w' (fun e w2 => e = .returned (.int .i64 (evalF g c v port d)) ∧ Bel w' w2) by
   rw [hi, HK2.out]; exact HI2.out b port _ _ _ _ es (k + 1 + a.len) _ (HGV.out _ kk) (HCV.out _ kk) (HT.out _ kk) HA2.out HARG.out hlen HBO2.out HPO.out)
  clear hh hhe harg hT har hat hbo hpo iha ihd ha hd1 hopn
  go_enter Tryz.func81, Tryz.ntmps81
  go_wp2_with (go_at_call 100; refine (refArity_any _ _).mono ?_; rintro e w' ⟨rfl, rfl⟩; rw [HAR.out])
  replace HB := HB.drew
  go_region_held3 (fun w' => w'.cell? ⟨w.heap.size, 0, none⟩ = some (.slice A2 g.ids.length k2) ∧ w'.cell? ⟨w.heap.size, 1, none⟩ = some (.slice A3 g.ports.length k3) ∧ w.heap.size < w'.heap.size) (exact hcell.out _ HB)
   (first
    | (go_simp; go_at_call 106; refine (refOperand_any _ _ _ es _ _ _ (HT.out _ (box_bel HB)) (by omega)).mono ?_; rintro e w' ⟨rfl, rfl⟩; rw [HOP.out])
    | (go_simp; go_at_call 81; first
      | (refine Calls.mono (HC1.out _ _ ?_ (box_bel HB)) ?_; omega; rintro e w4 ⟨rfl, hbb⟩; replace HB := HB.trans hbb; clear hbb)
      | (refine Calls.mono (HC2.out _ _ ?_ (box_bel HB)) ?_; omega; rintro e w4 ⟨rfl, hbb⟩; replace HB := HB.trans hbb; clear hbb))
    | (go_simp; go_at_call 105; refine (refBinary_any _ _ _ _).mono ?_; rintro e w' ⟨rfl, rfl⟩; rw [HE.out]))
  all_goals
   go_wp2_with fail
   go_ret
   exact ⟨rfl, box_bel HB⟩
 | tri t a d f iha ihd ihf =>
  intro b port gv cv A ce es k w hgv hcv hT hat harg hlen hbo hpo
  have hlt := At.lt hat
  obtain ⟨hh, har, ha, hd1, hf1⟩ := At.tri hat
  have hbd := At.bound ha
  have hbd2 := At.bound hd1
  have hbd3 := At.bound hf1
  have hopn := At.operand1 hat hh (by omega) ha
  have hopn2 := At.operand2 hat hh (by omega) ha hd1
  obtain ⟨b1, o1, rfl, hb1, c1, c2⟩ := hT.at_ k hlt
  have hhe : es[k] = t := by rw [List.getElem?_eq_getElem hlt] at hh; simpa using hh
  rw [hhe] at c1 c2
  have HGV := Lib.hid (fun w' (k : Bel w w') => hgv.keep k)
  have HCV := Lib.hid (fun w' (k : Bel w w') => hcv.keep k)
  have HT := Lib.hid (fun w' (k : Bel w w') => TermsR.keep hT k)
  obtain ⟨A2, k2, A3, k3, rfl, _, _, _, _, _, _⟩ := hgv
  obtain ⟨A4, k4, rfl, _, _, _⟩ := hcv
  have HAR := Lib.hid har
  have HARG := Lib.hid harg
  have HPO := Lib.hid hpo
  have HI1 := Lib.hid iha
  have HI2 := Lib.hid ihd
  have HA1 := Lib.hid ha
  have HA2 := Lib.hid hd1
  have HI3 := Lib.hid ihf
  have HA3 := Lib.hid hf1
  have HOP2 := Lib.hid hopn2
  have HK3 := Lib.hid (show (k : Int) + 1 + (a.len : Int) + (d.len : Int) = ((k + 1 + a.len + d.len : Nat) : Int) by omega)
  have HOP := Lib.hid hopn
  have HB := Bel.refl (w.alloc (.cells #[.slice A2 g.ids.length k2, .slice A3 g.ports.length k3] 29))
  have hcell := Lib.hid (fun w' (kk : Bel (w.alloc (.cells #[.slice A2 g.ids.length k2, .slice A3 g.ports.length k3] 29)) w') => And.intro (box_cell kk 0 (v := .slice A2 g.ids.length k2) rfl) (And.intro (box_cell kk 1 (v := .slice A3 g.ports.length k3) rfl) (box_lt kk)))
  have hw1 : IntKind.i64.wrap ((k : Int) + 1) = (k : Int) + 1 := IntWalk.i64_in _ (by omega)
  have HK1 := Lib.hid (show (k : Int) + 1 = ((k + 1 : Nat) : Int) by omega)
  have HK2 := Lib.hid (show (k : Int) + 1 + (a.len : Int) = ((k + 1 + a.len : Nat) : Int) by omega)
  have HBO1 : Hid (boundOK b a) := hbo.1
  have HBO2 : Hid (boundOK b d) := hbo.2.1
  have HBO3 : Hid (boundOK b f) := hbo.2.2
  have HE : Hid (evalF g c v port (.tri t a d f) = if evalF g c v port a ≠ 0 then evalF g c v port d else evalF g c v port f) := rfl
  clear hh hhe harg hT har hat hbo hpo iha ihd ihf ha hd1 hf1 hopn hopn2
  go_enter Tryz.func81, Tryz.ntmps81
  go_wp2_with (go_at_call 100; refine (refArity_any _ _).mono ?_; rintro e w' ⟨rfl, rfl⟩; rw [HAR.out])
  refine (HI1.out b port _ _ _ _ es (k + 1) _ (HGV.out _ (box_bel HB)) (HCV.out _ (box_bel HB)) (HT.out _ (box_bel HB)) HA1.out HARG.out hlen HBO1.out HPO.out).mono ?_
  rintro e w4 ⟨rfl, hbb⟩
  replace HB := HB.trans hbb
  clear hbb
  obtain ⟨q0, q1, q2⟩ := hcell.out _ HB
  by_cases hz : evalF g c v port a = 0
  ·have hzb : (evalF g c v port a != 0) = false := by simpa using hz
   rw [if_neg (by simpa using hz)] at HE
   have HZ := Lib.hid hz; clear hz
   go_wp2_with fail
   replace HB := HB.drew
   go_region_held3 (fun w' => w'.cell? ⟨w.heap.size, 0, none⟩ = some (.slice A2 g.ids.length k2) ∧ w'.cell? ⟨w.heap.size, 1, none⟩ = some (.slice A3 g.ports.length k3) ∧ w.heap.size < w'.heap.size) (exact hcell.out _ HB)
    (first
     | (go_simp; go_at_call 106; refine (refOperand_any _ _ _ es _ _ _ (HT.out _ (box_bel HB)) (by omega)).mono ?_; rintro e w' ⟨rfl, rfl⟩; rw [HOP2.out])
     | (go_simp; go_at_call 81; refine (HI3.out b port _ _ _ _ es (k + 1 + a.len + d.len) _ (HGV.out _ (box_bel HB)) (HCV.out _ (box_bel HB)) (HT.out _ (box_bel HB)) HA3.out HARG.out hlen HBO3.out HPO.out).mono ?_; rintro e w5 ⟨rfl, hbb⟩; replace HB := HB.trans hbb; clear hbb))
   all_goals
    go_wp2_with fail
    go_ret
    exact ⟨ret_int HE.out.symm, box_bel HB⟩
  ·have hzb : (evalF g c v port a != 0) = true := by simpa using hz
   rw [if_pos hz] at HE
   have HZ := Lib.hid hz; clear hz
   go_wp2_with fail
   replace HB := HB.drew
   go_region_held3 (fun w' => w'.cell? ⟨w.heap.size, 0, none⟩ = some (.slice A2 g.ids.length k2) ∧ w'.cell? ⟨w.heap.size, 1, none⟩ = some (.slice A3 g.ports.length k3) ∧ w.heap.size < w'.heap.size) (exact hcell.out _ HB)
    (first
     | (go_simp; go_at_call 106; refine (refOperand_any _ _ _ es _ _ _ (HT.out _ (box_bel HB)) (by omega)).mono ?_; rintro e w' ⟨rfl, rfl⟩; rw [HOP.out])
     | (go_simp; go_at_call 81; refine (HI2.out b port _ _ _ _ es (k + 1 + a.len) _ (HGV.out _ (box_bel HB)) (HCV.out _ (box_bel HB)) (HT.out _ (box_bel HB)) HA2.out HARG.out hlen HBO2.out HPO.out).mono ?_; rintro e w5 ⟨rfl, hbb⟩; replace HB := HB.trans hbb; clear hbb))
   all_goals
    go_wp2_with fail
    go_ret
    exact ⟨ret_int HE.out.symm, box_bel HB⟩

end Go.Proofs.YtgemlgpjbclonaaGreatDoor

