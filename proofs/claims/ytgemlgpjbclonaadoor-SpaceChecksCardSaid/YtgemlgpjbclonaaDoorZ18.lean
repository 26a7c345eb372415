/- Merged of: PE PEb WEa WEb (see NOTES.md). -/
import Derived.Test.YtgemlgpjbclonaaDoorZ17
set_option linter.unusedSimpArgs false
set_option linter.unnecessarySimpa false
set_option linter.unusedVariables false

/- The plain form of evaluation, and that its values are numbers of the rule language. -/
namespace Go.Proofs.YtgemlgpjbclonaaDoor

def linkF (g : Graph) (v : Nat) (port : Int) : Link := (g.ports.getD v []).getD port.toNat default
def factF (g : Graph) (op : Int) (v : Nat) (port : Int) : Int :=
  if op = 6 then g.ids.length else if op = 7 then gmax g.ids else if op = 8 then g.ids.getD v 0 else if op = 9 then (g.ports.getD v []).length
  else if op = 10 then truthI (decide (v = 0)) else if op = 11 then port
  else if op = 13 then g.ids.getD (linkF g v port).to.toNat 0
  else if op = 14 then (g.ports.getD (linkF g v port).to.toNat []).length
  else if op = 15 then truthI (decide ((linkF g v port).to = 0))
  else if op = 16 then (linkF g v port).weight
  else portF (g.ports.getD (linkF g v port).to.toNat []) v
def leafF (g : Graph) (c : Config) (v : Nat) (port : Int) (t : Term) : Int :=
  if t.op = 1 then t.arg else if t.op = 2 then 1 else if t.op = 3 then 0 else if t.op = 4 then -1
  else if t.op = 5 then (c.getD v []).getD t.arg.toNat 0
  else if t.op = 12 then (c.getD (linkF g v port).to.toNat []).getD t.arg.toNat 0
  else factF g t.op v port
def evalF (g : Graph) (c : Config) (v : Nat) : Int → Ex → Int
  | port, .leaf t => leafF g c v port t
  | port, .un t a => if aggregate t.op then foldF t.op ((List.range (g.ports.getD v []).length).map fun (k : Nat) => evalF g c v (k : Int) a) else unaryF t.op (evalF g c v port a)
  | port, .bin t a b => binaryF t.op (evalF g c v port a) (evalF g c v port b)
  | port, .tri _ a b d => if evalF g c v port a ≠ 0 then evalF g c v port b else evalF g c v port d

def boundOK : Bool → Ex → Prop
  | b, .leaf t => nearOp t.op = true → b = true
  | b, .un t a => boundOK (b || aggregate t.op) a
  | b, .bin _ x y => boundOK b x ∧ boundOK b y
  | b, .tri _ x y z => boundOK b x ∧ boundOK b y ∧ boundOK b z
theorem ifK_ne {b : Bool} {k : Int} (h : ifK b k ≠ 0) : b = true ∧ k ≠ 0 := by
  unfold ifK at h
  cases b
  · exact absurd rfl h
  · exact ⟨rfl, h⟩
theorem singleK_ne {op a : Int} (h : singleK op a ≠ 0) : a ≠ 0 := by
  unfold singleK at h
  rintro rfl
  repeat' split at h
  all_goals exact h rfl
theorem doubleK_ne {op a b : Int} (h : doubleK op a b ≠ 0) : a ≠ 0 ∧ b ≠ 0 := by
  unfold doubleK at h
  repeat' split at h
  all_goals
    have := (ifK_ne h).1
    simp at this
    omega
theorem kind_bound {kinds : List Int} {x : Ex} : ∀ {b : Bool}, kindF kinds b x ≠ 0 → boundOK b x := by
  induction x with
  | leaf t =>
    intro b h hn
    simp only [kindF] at h
    cases b
    · rw [hn] at h; exact absurd rfl h
    · rfl
  | un t a ih => intro b h; exact ih (singleK_ne h)
  | bin t x y ihx ihy => intro b h; obtain ⟨h1, h2⟩ := doubleK_ne h; exact ⟨ihx h1, ihy h2⟩
  | tri t x y z ihx ihy ihz =>
    intro b h
    obtain ⟨h1, h2⟩ := ifK_ne h
    simp at h1
    refine ⟨ihx (by omega), ihy h2, ihz ?_⟩
    rw [← h1.2]; exact h2

theorem firstGo_range (l : List Int) : ∀ i : Int, firstGo l i = -1 ∨ (i ≤ firstGo l i ∧ firstGo l i < i + l.length) := by
  induction l with
  | nil => intro i; left; rfl
  | cons a l ih =>
    intro i
    simp only [firstGo]
    split
    · right; simp; omega
    · rcases ih (i + 1) with h | h
      · left; exact h
      · right; simp; omega
theorem foldl_min_num (l : List Int) : ∀ z : Int, Num z → (∀ x ∈ l, Num x) → Num (l.foldl min z) := by
  induction l with
  | nil => intro z hz _; exact hz
  | cons a l ih =>
    intro z hz h
    refine ih _ ?_ (fun x hx => h x (by simp [hx]))
    have := h a (by simp)
    unfold Num at *
    omega
theorem twoGo_num (l : List Int) : ∀ a b : Int, Num a → Num b → (∀ x ∈ l, Num x) → Num (twoGo l a b).1 ∧ Num (twoGo l a b).2 := by
  induction l with
  | nil => intro a b ha hb _; exact ⟨ha, hb⟩
  | cons x l ih =>
    intro a b ha hb h
    have hx := h x (by simp)
    have hr : ∀ y ∈ l, Num y := fun y hy => h y (by simp [hy])
    simp only [twoGo]
    split
    · exact ih _ _ hx ha hr
    · refine ih _ _ ha ?_ hr
      unfold Num at *
      omega
theorem foldF_num {op : Int} {l : List Int} (hn : ∀ x ∈ l, Num x) (hl : l.length ≤ 1000) : Num (foldF op l) := by
  unfold foldF
  split
  · exact truthI_num _
  split
  · exact truthI_num _
  split
  · have := countF_le l; unfold Num; omega
  split
  · have := firstGo_range l 0; unfold Num; omega
  split
  · exact foldl_min_num l _ (by unfold Num; omega) hn
  split
  · exact (twoGo_num l _ _ (by unfold Num; omega) (by unfold Num; omega) hn).1
  split
  · exact satF_num _
  split
  · have h1 := mexGo_eq l (cntGe l 0) 0 (Nat.le_refl _)
    have h2 := cntGe_le l 0
    unfold mexF Num
    omega
  split
  · exact (twoGo_num l _ _ (by unfold Num; omega) (by unfold Num; omega) hn).2
  · cases l with
    | nil => unfold Num; simp
    | cons a l => exact hn a (by simp)
theorem unaryF_num {op a : Int} (h : Num a) : Num (unaryF op a) := by
  unfold unaryF
  split
  · unfold Num at *; omega
  · exact truthI_num _
theorem binaryF_num {op a b : Int} : Num (binaryF op a b) := satF_num _

/-- A configuration on a graph that it fits, and a node. -/
structure SOK (p : Prg) (g : Graph) (c : Config) (v : Nat) : Prop where
  fits : fitsF p g = 0
  conf : confB (tableF p g) c = true
  node : v < g.ports.length
theorem SOK.gok {p : Prg} {g : Graph} {c : Config} {v : Nat} (h : SOK p g c v) : GOK g := (fits_zero h.fits).2.1
theorem SOK.len {p : Prg} {g : Graph} {c : Config} {v : Nat} (h : SOK p g c v) : c.length = g.ports.length := by
  rw [(confB_iff.1 h.conf).1, tableF_length, h.gok.ids]
theorem SOK.row {p : Prg} {g : Graph} {c : Config} {v : Nat} (h : SOK p g c v) {u : Nat} (hu : u < g.ports.length) : (c[u]'(by rw [h.len]; exact hu)).length = p.vars.length := by
  have := (confB_iff.1 h.conf).2 u (by rw [h.len]; exact hu) (by rw [tableF_length, h.gok.ids]; exact hu)
  rw [tableF_at] at this
  have := (stateB_iff.1 this).1
  rwa [rowF_length] at this
theorem SOK.val {p : Prg} {g : Graph} {c : Config} {v : Nat} (h : SOK p g c v) {u i : Nat} (hu : u < g.ports.length) (hi : i < p.vars.length) :
    (boundsF p.vars[i] g u).1 ≤ (c[u]'(by rw [h.len]; exact hu))[i]'(by rw [h.row hu]; exact hi) ∧ (c[u]'(by rw [h.len]; exact hu))[i]'(by rw [h.row hu]; exact hi) ≤ (boundsF p.vars[i] g u).2 := by
  have h1 := (confB_iff.1 h.conf).2 u (by rw [h.len]; exact hu) (by rw [tableF_length, h.gok.ids]; exact hu)
  rw [tableF_at] at h1
  have := (stateB_iff.1 h1).2 i (by rw [h.row hu]; exact hi) (by rw [rowF_length]; exact hi)
  rwa [rowF_at] at this
theorem SOK.small {p : Prg} {g : Graph} {c : Config} {v : Nat} (h : SOK p g c v) {u i : Nat} (hu : u < g.ports.length) (hi : i < p.vars.length) : Num ((c.getD u []).getD i 0) := by
  have h1 := h.val hu hi
  have h2 := bounds_small (List.all_eq_true.1 (check_numbers (fits_zero h.fits).1).1 _ (List.getElem_mem hi)) h.gok hu
  have e1 : c.getD u [] = c[u]'(by rw [h.len]; exact hu) := getD_eq (by rw [h.len]; exact hu)
  rw [e1, getD_eq (by rw [h.row hu]; exact hi)]
  unfold Num
  omega
/-- The link at a port of a node. -/
theorem link_at {g : Graph} (hg : GOK g) {v k : Nat} (hv : v < g.ports.length) (hk : k < g.ports[v].length) :
    linkF g v (k : Int) = g.ports[v][k] ∧ ∃ t : Nat, g.ports[v][k].to = (t : Int) ∧ t < g.ports.length ∧ 1 ≤ g.ports[v][k].weight ∧ g.ports[v][k].weight ≤ 15 ∧ g.ports[v].length < g.ports.length := by
  have h1 := hg.links v hv
  obtain ⟨a1, a2, a3, a4, a5⟩ := linkOK_iff.1 ((linksOK_iff.1 h1).1 _ (List.getElem_mem hk))
  obtain ⟨t, ht⟩ := Int.eq_ofNat_of_zero_le a1
  refine ⟨?_, t, ht, by omega, a4, a5, linksOK_len hv h1⟩
  unfold linkF
  rw [getD_eq hv, Int.toNat_natCast, getD_eq hk]
def portOK (g : Graph) (v : Nat) (b : Bool) (port : Int) : Prop := b = true → ∃ k : Nat, port = (k : Int) ∧ k < (g.ports.getD v []).length
theorem getD_mem_or {l : List Int} {k : Nat} {P : Int → Prop} (h0 : P 0) (h : ∀ x ∈ l, P x) : P (l.getD k 0) := by
  rw [List.getD_eq_getElem?_getD]
  cases hx : l[k]? with
  | none => exact h0
  | some x => exact h x (List.mem_of_getElem? hx)
theorem fact_num {g : Graph} (hg : GOK g) {op : Int} {v : Nat} {port : Int} {b : Bool} (hv : v < g.ports.length) (hop : 6 ≤ op ∧ op ≤ 17 ∧ op ≠ 12) (hb : nearOp op = true → b = true) (hp : portOK g v b port) : Num (factF g op v port) := by
  have hle := hg.le
  have hids := hg.ids
  obtain ⟨g1, g2⟩ := gmax_le255 hg
  have hid : ∀ k, Num (g.ids.getD k 0) := fun k => getD_mem_or (P := Num) (by unfold Num; omega) (fun x hx => by have := hg.idr x hx; unfold Num; omega)
  have hlen : ∀ u, (g.ports.getD u []).length ≤ 24 := fun u => by
    rcases Nat.lt_or_ge u g.ports.length with h | h
    · rw [getD_eq h]; have := linksOK_len h (hg.links u h); omega
    · rw [List.getD_eq_getElem?_getD, List.getElem?_eq_none h]; simp
  by_cases hn : 11 ≤ op
  · have hnear : nearOp op = true := by unfold nearOp; simp; omega
    obtain ⟨k, rfl, hk⟩ := hp (hb hnear)
    rw [getD_eq hv] at hk
    obtain ⟨e, t, ht, htl, w1, w2, hl⟩ := link_at hg hv hk
    have hr := portF_range (g.ports.getD t []) (v : Int)
    have := hlen t
    have hlv := hlen v
    unfold factF
    rw [e, ht, Int.toNat_natCast]
    generalize g.ports[v][k].weight = wt at *
    generalize (g.ports.getD t []).length = len at *
    generalize portF (g.ports.getD t []) (v : Int) = pf at *
    generalize (g.ports.getD v []).length = lv at *
    generalize gmax g.ids = gm at *
    have n0 : Num (g.ids.length : Int) := by unfold Num; omega
    have n1 : Num gm := by unfold Num; omega
    have n2 : Num (lv : Int) := by unfold Num; omega
    have n3 : Num (k : Int) := by unfold Num; omega
    have n4 : Num (len : Int) := by unfold Num; omega
    have n5 : Num wt := by unfold Num; omega
    have n6 : Num pf := by unfold Num; omega
    by_cases c1 : op = 6
    · rw [if_pos c1]; exact n0
    rw [if_neg c1]
    by_cases c2 : op = 7
    · rw [if_pos c2]; exact n1
    rw [if_neg c2]
    by_cases c3 : op = 8
    · rw [if_pos c3]; exact hid _
    rw [if_neg c3]
    by_cases c4 : op = 9
    · rw [if_pos c4]; exact n2
    rw [if_neg c4]
    by_cases c5 : op = 10
    · rw [if_pos c5]; exact truthI_num _
    rw [if_neg c5]
    by_cases c6 : op = 11
    · rw [if_pos c6]; exact n3
    rw [if_neg c6]
    by_cases c7 : op = 13
    · rw [if_pos c7]; exact hid _
    rw [if_neg c7]
    by_cases c8 : op = 14
    · rw [if_pos c8]; exact n4
    rw [if_neg c8]
    by_cases c9 : op = 15
    · rw [if_pos c9]; exact truthI_num _
    rw [if_neg c9]
    by_cases c10 : op = 16
    · rw [if_pos c10]; exact n5
    rw [if_neg c10]
    exact n6
  · unfold factF
    have hlv := hlen v
    by_cases c1 : op = 6
    · rw [if_pos c1]; unfold Num; omega
    rw [if_neg c1]
    by_cases c2 : op = 7
    · rw [if_pos c2]; unfold Num; omega
    rw [if_neg c2]
    by_cases c3 : op = 8
    · rw [if_pos c3]; exact hid _
    rw [if_neg c3]
    by_cases c4 : op = 9
    · rw [if_pos c4]; unfold Num; omega
    rw [if_neg c4]
    by_cases c5 : op = 10
    · rw [if_pos c5]; exact truthI_num _
    exfalso; omega
theorem leaf_num {p : Prg} {g : Graph} {c : Config} {v : Nat} (h : SOK p g c v) {t : Term} {port : Int} {b : Bool} (har : arity t.op = 0) (ha : argF t p.vars.length = true) (hb : nearOp t.op = true → b = true) (hp : portOK g v b port) : Num (leafF g c v port t) := by
  have hr := (arity_bounds t.op).1 har
  obtain ⟨op, arg⟩ := t
  dsimp only at *
  unfold leafF
  dsimp only
  by_cases h1 : op = 1
  · rw [if_pos h1]
    subst h1
    have hd : decide (0 ≤ arg ∧ arg ≤ 1073741824) = true := ha
    have := of_decide_eq_true hd
    unfold Num; omega
  rw [if_neg h1]
  split
  · unfold Num; omega
  split
  · unfold Num; omega
  split
  · unfold Num; omega
  split
  · rename_i h5
    obtain ⟨a1, a2⟩ := arg_var ha (.inl h5)
    obtain ⟨a, rfl⟩ := Int.eq_ofNat_of_zero_le a1
    rw [Int.toNat_natCast]
    exact h.small h.node (by omega)
  split
  · rename_i h12
    obtain ⟨a1, a2⟩ := arg_var ha (.inr h12)
    obtain ⟨a, rfl⟩ := Int.eq_ofNat_of_zero_le a1
    obtain ⟨k, rfl, hk⟩ := hp (hb (by unfold nearOp; simp; omega))
    rw [getD_eq h.node] at hk
    obtain ⟨e, t, ht, htl, _⟩ := link_at h.gok h.node hk
    rw [e, ht, Int.toNat_natCast, Int.toNat_natCast]
    exact h.small htl (by omega)
  · rename_i h2 h3 h4 h5 h12
    exact fact_num h.gok h.node (by omega) hb hp
theorem ports_len {g : Graph} (hg : GOK g) {v : Nat} (hv : v < g.ports.length) : (g.ports.getD v []).length < 24 := by
  rw [getD_eq hv]; have := linksOK_len hv (hg.links v hv); have := hg.le; omega
theorem eval_num {p : Prg} {g : Graph} {c : Config} {v : Nat} (h : SOK p g c v) {x : Ex} (hx : x.ok) (ha : ∀ t ∈ x.terms, argF t p.vars.length = true) : ∀ {b : Bool} {port : Int}, boundOK b x → portOK g v b port → Num (evalF g c v port x) := by
  induction x with
  | leaf t => intro b port hb hp; exact leaf_num h hx (ha t (by simp [Ex.terms])) hb hp
  | un t a ih =>
    intro b port hb hp
    have ha' : ∀ s ∈ a.terms, argF s p.vars.length = true := fun s hs => ha s (by simp [Ex.terms, hs])
    simp only [evalF]
    split
    · rename_i hag
      refine foldF_num (fun y hy => ?_) (by rw [List.length_map, List.length_range]; have := ports_len h.gok h.node; omega)
      obtain ⟨k, hk, rfl⟩ := List.mem_map.1 hy
      rw [List.mem_range] at hk
      refine ih hx.2 ha' (b := true) ?_ (fun _ => ⟨k, rfl, hk⟩)
      have hb' : boundOK (b || aggregate t.op) a := hb
      rwa [hag, Bool.or_true] at hb'
    · rename_i hag
      refine unaryF_num (ih hx.2 ha' (b := b) ?_ hp)
      have hb' : boundOK (b || aggregate t.op) a := hb
      rwa [show aggregate t.op = false by simpa using hag, Bool.or_false] at hb'
  | bin t x y ihx ihy => intro b port hb hp; exact binaryF_num
  | tri t x y z ihx ihy ihz =>
    intro b port hb hp
    simp only [evalF]
    obtain ⟨_, _, o2, o3⟩ := hx
    split
    · exact ihy o2 (fun s hs => ha s (by simp [Ex.terms, hs])) hb.2.1 hp
    · exact ihz o3 (fun s hs => ha s (by simp [Ex.terms, hs])) hb.2.2 hp

end Go.Proofs.YtgemlgpjbclonaaDoor

/- Plain laws of evaluation: the values of Bool and Port expressions; values depend on the node and its neighbours alone. -/
namespace Go.Proofs.YtgemlgpjbclonaaDoor

theorem SOK.kinded {p : Prg} {g : Graph} {c : Config} {v : Nat} (h : SOK p g c v) {u i : Nat} (hu : u < g.ports.length) (hi : i < p.vars.length) :
    ((kindsF p).getD i 0 = 2 → (c.getD u []).getD i 0 = 0 ∨ (c.getD u []).getD i 0 = 1) ∧ ((kindsF p).getD i 0 = 3 → -1 ≤ (c.getD u []).getD i 0 ∧ (c.getD u []).getD i 0 < 24) := by
  have h1 := h.val hu hi
  have e1 : c.getD u [] = c[u]'(by rw [h.len]; exact hu) := getD_eq (by rw [h.len]; exact hu)
  have e2 : (kindsF p).getD i 0 = p.vars[i].kind := by
    rw [getD_eq (by unfold kindsF; simpa using hi)]
    simp [kindsF]
  rw [e2, e1, getD_eq (by rw [h.row hu]; exact hi)]
  have hlen := linksOK_len hu (h.gok.links u hu)
  have hle := h.gok.le
  unfold boundsF at h1
  rw [getD_eq hu] at h1
  refine ⟨fun hk => ?_, fun hk => ?_⟩
  · rw [if_pos hk] at h1
    dsimp only at h1
    omega
  · rw [if_neg (by omega), if_pos hk] at h1
    dsimp only at h1
    omega
def TypedV (k x : Int) : Prop := (k = 2 → x = 0 ∨ x = 1) ∧ (k = 3 → -1 ≤ x ∧ x < 24)
theorem typedV_truth (k : Int) (b : Bool) (h : k ≠ 3) : TypedV k (truthI b) := ⟨fun _ => truthI_01 b, fun h' => absurd h' h⟩
theorem leaf_typed {p : Prg} {g : Graph} {c : Config} {v : Nat} (h : SOK p g c v) {t : Term} {port : Int} {b : Bool} (har : arity t.op = 0) (ha : argF t p.vars.length = true) (hb : nearOp t.op = true → b = true) (hp : portOK g v b port) : TypedV (leafK (kindsF p) t) (leafF g c v port t) := by
  have hr := (arity_bounds t.op).1 har
  have hpl := ports_len h.gok h.node
  have hnear : 11 ≤ t.op → ∃ k : Nat, port = (k : Int) ∧ k < (g.ports.getD v []).length := fun h11 => hp (hb (by unfold nearOp; simp; omega))
  obtain ⟨op, arg⟩ := t
  dsimp only at *
  unfold leafK leafF
  dsimp only
  by_cases h5 : op = 5
  · subst h5
    obtain ⟨a1, a2⟩ := arg_var ha (.inl rfl)
    obtain ⟨a, rfl⟩ := Int.eq_ofNat_of_zero_le a1
    have := h.kinded (u := v) (i := a) h.node (by omega)
    simpa [TypedV] using this
  by_cases h12 : op = 12
  · subst h12
    obtain ⟨a1, a2⟩ := arg_var ha (.inr rfl)
    obtain ⟨a, rfl⟩ := Int.eq_ofNat_of_zero_le a1
    obtain ⟨k, rfl, hk⟩ := hnear (by omega)
    rw [getD_eq h.node] at hk
    obtain ⟨e, t, ht, htl, _⟩ := link_at h.gok h.node hk
    rw [e, ht]
    have := h.kinded (u := t) (i := a) htl (by omega)
    simpa [TypedV] using this
  by_cases h2 : op = 2
  · subst h2; simp [TypedV]
  by_cases h3 : op = 3
  · subst h3; simp [TypedV]
  by_cases h4 : op = 4
  · subst h4; simp [TypedV]
  by_cases h10 : op = 10
  · subst h10
    have := typedV_truth 2 (decide (v = 0)) (by omega)
    simpa [factF] using this
  by_cases h15 : op = 15
  · subst h15
    have := typedV_truth 2 (decide ((linkF g v port).to = 0)) (by omega)
    simpa [factF] using this
  by_cases h11 : op = 11
  · subst h11
    obtain ⟨k, rfl, hk⟩ := hnear (by omega)
    simp [factF, TypedV]
    omega
  by_cases h17 : op = 17
  · subst h17
    obtain ⟨k, rfl, hk⟩ := hnear (by omega)
    rw [getD_eq h.node] at hk
    obtain ⟨e, t, ht, htl, _⟩ := link_at h.gok h.node hk
    have h1 := portF_range (g.ports.getD t []) (v : Int)
    have h2 := ports_len h.gok htl
    simp only [List.getD_eq_getElem?_getD] at h1 h2
    simp [factF, e, ht, TypedV]
    omega
  rw [if_neg (by omega), if_neg (by omega), if_neg (by omega)]
  exact ⟨fun h => absurd h (by decide), fun h => absurd h (by decide)⟩
theorem typedV_ifK {b : Bool} {k x : Int} (h : TypedV k x) : TypedV (ifK b k) x := by
  unfold ifK
  cases b
  · exact ⟨fun h => by simp at h, fun h => by simp at h⟩
  · exact h
theorem typedV_one (x : Int) : TypedV 1 x := ⟨fun h => absurd h (by decide), fun h => absurd h (by decide)⟩
theorem eval_typed {p : Prg} {g : Graph} {c : Config} {v : Nat} (h : SOK p g c v) {x : Ex} (hx : x.ok) (ha : ∀ t ∈ x.terms, argF t p.vars.length = true) : ∀ {b : Bool} {port : Int}, boundOK b x → portOK g v b port → TypedV (kindF (kindsF p) b x) (evalF g c v port x) := by
  induction x with
  | leaf t =>
    intro b port hb hp
    have := leaf_typed h hx (ha t (by simp [Ex.terms])) hb hp
    simp only [kindF, evalF]
    split
    · exact ⟨fun h => absurd h (by decide), fun h => absurd h (by decide)⟩
    · exact this
  | un t a ih =>
    intro b port hb hp
    have hr := (arity_bounds t.op).2.1 hx.1
    have hpl := ports_len h.gok h.node
    simp only [evalF, kindF]
    obtain ⟨op, arg⟩ := t
    dsimp only at *
    generalize hL : (List.range (g.ports.getD v []).length).map (fun (k : Nat) => evalF g c v (k : Int) a) = L
    have hLl : L.length = (g.ports.getD v []).length := by rw [← hL]; simp
    unfold singleK
    by_cases h19 : op = 19
    · subst h19
      rw [if_pos (by omega), show aggregate 19 = false by decide]
      simp only [Bool.false_eq_true, if_false, unaryF]
      exact typedV_ifK (typedV_truth 2 _ (by omega))
    by_cases h20 : op = 20
    · subst h20
      rw [if_pos (by omega), show aggregate 20 = true by decide]
      simp only [if_true, foldF]
      exact typedV_ifK (typedV_truth 2 _ (by omega))
    by_cases h21 : op = 21
    · subst h21
      rw [if_pos (by omega), show aggregate 21 = true by decide]
      simp [foldF]
      exact typedV_ifK (typedV_truth 2 _ (by omega))
    rw [if_neg (by omega)]
    by_cases h22 : op = 22
    · rw [if_pos h22]; exact typedV_ifK (typedV_one _)
    rw [if_neg h22]
    by_cases h23 : op = 23
    · subst h23
      rw [if_pos rfl, show aggregate 23 = true by decide]
      have := firstGo_range L 0
      refine typedV_ifK ⟨fun h => absurd h (by decide), fun _ => ?_⟩
      simp [foldF]
      omega
    rw [if_neg h23]
    exact typedV_ifK (typedV_one _)
  | bin t x y ihx ihy =>
    intro b port hb hp
    have hr := (arity_bounds t.op).2.2.1 hx.1
    simp only [evalF, kindF]
    obtain ⟨op, arg⟩ := t
    dsimp only at *
    generalize evalF g c v port x = A
    generalize evalF g c v port y = B
    have ht : 35 ≤ op → ∃ q, binaryF op A B = truthI q := by
      intro h35
      unfold binaryF applyF
      rw [if_neg (by omega), if_neg (by omega), if_neg (by omega), if_neg (by omega), if_neg (by omega)]
      repeat' split
      all_goals exact ⟨_, satF_truthI _⟩
    unfold doubleK
    split
    · obtain ⟨q, hq⟩ := ht (by omega)
      rw [hq]; exact typedV_ifK (typedV_truth 2 _ (by omega))
    split
    · obtain ⟨q, hq⟩ := ht (by omega)
      rw [hq]; exact typedV_ifK (typedV_truth 2 _ (by omega))
    split
    · obtain ⟨q, hq⟩ := ht (by omega)
      rw [hq]; exact typedV_ifK (typedV_truth 2 _ (by omega))
    · exact typedV_ifK (typedV_one _)
  | tri t x y z ihx ihy ihz =>
    intro b port hb hp
    simp only [evalF, kindF]
    obtain ⟨_, _, o2, o3⟩ := hx
    have hy := ihy o2 (fun s hs => ha s (by simp [Ex.terms, hs])) hb.2.1 hp
    have hz := ihz o3 (fun s hs => ha s (by simp [Ex.terms, hs])) hb.2.2 hp
    cases he : (kindF (kindsF p) b x == 2 && kindF (kindsF p) b y == kindF (kindsF p) b z) with
    | false => exact ⟨fun h => by simp [ifK] at h, fun h => by simp [ifK] at h⟩
    | true =>
      simp only [Bool.and_eq_true, beq_iff_eq] at he
      show TypedV (kindF (kindsF p) b y) _
      split
      · exact hy
      · rw [he.2]; exact hz

/-! ### Locality -/
theorem leaf_local {g : Graph} {c d : Config} {v : Nat} (hg : GOK g) (hv : v < g.ports.length) (hown : c.getD v [] = d.getD v []) (hnear : ∀ l ∈ g.ports.getD v [], c.getD l.to.toNat [] = d.getD l.to.toNat []) {t : Term} {port : Int} {b : Bool} (hb : nearOp t.op = true → b = true) (hp : portOK g v b port) : leafF g c v port t = leafF g d v port t := by
  unfold leafF
  rw [hown]
  by_cases h12 : t.op = 12
  · obtain ⟨k, rfl, hk⟩ := hp (hb (by unfold nearOp; simp; omega))
    rw [getD_eq hv] at hk hnear
    obtain ⟨e, t, ht, htl, _⟩ := link_at hg hv hk
    rw [e, hnear _ (List.getElem_mem hk)]
  · rw [if_neg h12, if_neg h12]
theorem eval_local {g : Graph} {c d : Config} {v : Nat} (hg : GOK g) (hv : v < g.ports.length) (hown : c.getD v [] = d.getD v []) (hnear : ∀ l ∈ g.ports.getD v [], c.getD l.to.toNat [] = d.getD l.to.toNat []) {x : Ex} : ∀ {b : Bool} {port : Int}, boundOK b x → portOK g v b port → evalF g c v port x = evalF g d v port x := by
  induction x with
  | leaf t => intro b port hb hp; exact leaf_local hg hv hown hnear hb hp
  | un t a ih =>
    intro b port hb hp
    have hb' : boundOK (b || aggregate t.op) a := hb
    simp only [evalF]
    split
    · rename_i hag
      rw [hag, Bool.or_true] at hb'
      congr 1
      refine List.map_congr_left fun k hk => ?_
      rw [List.mem_range] at hk
      exact ih hb' (fun _ => ⟨k, rfl, hk⟩)
    · rename_i hag
      rw [show aggregate t.op = false by simpa using hag, Bool.or_false] at hb'
      rw [ih hb' hp]
  | bin t x y ihx ihy => intro b port hb hp; simp only [evalF]; rw [ihx hb.1 hp, ihy hb.2 hp]
  | tri t x y z ihx ihy ihz => intro b port hb hp; simp only [evalF]; rw [ihx hb.1 hp, ihy hb.2.1 hp, ihz hb.2.2 hp]

end Go.Proofs.YtgemlgpjbclonaaDoor

/- Contracts: the reference's Fact and leaf. -/
namespace Go.Proofs.YtgemlgpjbclonaaDoor
open Go.RowKit

theorem fact_op {op : Int} (h : 6 ≤ op ∧ op ≤ 17 ∧ op ≠ 12) : (op = 6 ∨ op = 7 ∨ op = 8 ∨ op = 9 ∨ op = 10 ∨ op = 11) ∨ (op = 13 ∨ op = 14 ∨ op = 15 ∨ op = 16 ∨ op = 17) := by omega


theorem leaf_op {op : Int} (h : 1 ≤ op ∧ op ≤ 17) : (op = 1 ∨ op = 2 ∨ op = 3 ∨ op = 4) ∨ op = 5 ∨ op = 12 ∨ (6 ≤ op ∧ op ≤ 17 ∧ op ≠ 12) := by omega


end Go.Proofs.YtgemlgpjbclonaaDoor

/- Contract: the reference's At. -/
namespace Go.Proofs.YtgemlgpjbclonaaDoor
open Go.RowKit

theorem terms_mem {es : List Term} {k : Nat} {x : Ex} (h : x.At es k) : ∀ t ∈ x.terms, t ∈ es := by
  obtain ⟨_, r, hr⟩ := h
  intro t ht
  have : t ∈ es.drop k := by rw [hr]; exact List.mem_append_left _ ht
  exact List.mem_of_mem_drop this

end Go.Proofs.YtgemlgpjbclonaaDoor

