/- Merged of: P13b P13c P13d P13e (see NOTES.md). -/
import Derived.Test.YtaifafljakojnaaGreatZ17
set_option linter.unusedSimpArgs false
set_option linter.unnecessarySimpa false
set_option linter.unusedVariables false

/- The machine in plain form: a step, and what holds between the steps of a list that Verify accepts. -/
namespace Go.Proofs.YtaifafljakojnaaGreat

/-- What a machine reads: the number of neighbours, own values, values of the neighbour behind a port, facts. -/
structure Env where
  deg : Nat
  load : Int → Int
  near : Int → Int → Int
  fact : Int → Int → Int
/-- A state: the place, the stack (its top first), the open loops (the innermost one first) with the values so far. -/
structure MS where
  place : Nat
  stack : List Int
  loops : List (Nat × List Int)
def portM (s : MS) : Int := match s.loops with | [] => -1 | f :: _ => (f.2.length : Int)
def top1 (s : MS) : Int := s.stack.headD 0
def top2 (s : MS) : Int := s.stack.tail.headD 0
def nextM (E : Env) (x : Term) (s : MS) : MS :=
  match s.loops with
  | [] => s
  | f :: r => if f.2.length + 1 < E.deg then ⟨f.1 + 1, s.stack.tail, (f.1, f.2 ++ [top1 s]) :: r⟩ else ⟨s.place + 1, foldF x.arg (f.2 ++ [top1 s]) :: s.stack.tail, r⟩
def stepM (E : Env) (l : List Term) (s : MS) : MS :=
  let x := insAt l s.place
  if x.op = 1 then ⟨s.place + 1, x.arg :: s.stack, s.loops⟩
  else if x.op = 2 then ⟨s.place + 1, E.load x.arg :: s.stack, s.loops⟩
  else if x.op = 3 then ⟨s.place + 1, E.near (portM s) x.arg :: s.stack, s.loops⟩
  else if x.op = 4 then ⟨s.place + 1, E.fact (portM s) x.arg :: s.stack, s.loops⟩
  else if x.op = 5 then ⟨s.place + 1, unaryF x.arg (top1 s) :: s.stack.tail, s.loops⟩
  else if x.op = 6 then ⟨s.place + 1, binaryF x.arg (top2 s) (top1 s) :: s.stack.tail.tail, s.loops⟩
  else if x.op = 7 then ⟨if top1 s = 0 then x.arg.toNat else s.place + 1, s.stack.tail, s.loops⟩
  else if x.op = 8 then ⟨x.arg.toNat, s.stack, s.loops⟩
  else if x.op = 9 then (if E.deg = 0 then ⟨x.arg.toNat + 1, foldF (insAt l x.arg).arg [] :: s.stack, s.loops⟩ else ⟨s.place + 1, s.stack, (s.place, []) :: s.loops⟩)
  else nextM E x s

/-- What is read is a number of the rule language. -/
structure EnvOK (E : Env) (v : Int) : Prop where
  load : ∀ a, 0 ≤ a → a < v → Num (E.load a)
  near : ∀ k a : Int, 0 ≤ k → k < (E.deg : Int) → 0 ≤ a → a < v → Num (E.near k a)
  fact : ∀ k op : Int, 6 ≤ op → op ≤ 17 → op ≠ 12 → (11 ≤ op → 0 ≤ k ∧ k < (E.deg : Int)) → Num (E.fact k op)
/-- The loops of a state are those that are open ahead of its place. -/
structure LoopsOK (E : Env) (tr : List Tr) (loops : List (Nat × List Int)) : Prop where
  same : tr.map (·.1) = (loops.map fun f => (f.1 : Int)).reverse
  vals : ∀ f ∈ loops, f.2.length < E.deg ∧ ∀ x ∈ f.2, Num x
structure MInv (E : Env) (l : List Term) (H : List Int) (T : Nat → List Tr) (s : MS) : Prop where
  place : s.place ≤ l.length
  height : (s.stack.length : Int) = ig H s.place
  nums : ∀ x ∈ s.stack, Num x
  loops : LoopsOK E (T s.place) s.loops

theorem known_parts {x : Term} {v : Int} (h : knownF x v = true) : 1 ≤ x.op ∧ x.op ≤ 10 ∧ (x.op = 1 → Num x.arg) ∧ (x.op = 2 ∨ x.op = 3 → 0 ≤ x.arg ∧ x.arg < v) ∧ (x.op = 4 → 6 ≤ x.arg ∧ x.arg ≤ 17 ∧ x.arg ≠ 12)
    ∧ (x.op = 5 → x.arg = 18 ∨ x.arg = 19) ∧ (x.op = 6 → 30 ≤ x.arg ∧ x.arg ≤ 42) ∧ (x.op = 7 ∨ x.op = 8 ∨ x.op = 9 → 0 ≤ x.arg) ∧ (x.op = 10 → 20 ≤ x.arg ∧ x.arg ≤ 29) := by
  unfold knownF at h
  simp only [Bool.and_eq_true, decide_eq_true_eq, Bool.not_eq_true', Bool.and_eq_false_iff, decide_eq_false_iff_not] at h
  obtain ⟨⟨⟨⟨h1, h2⟩, h3⟩, h4⟩, h5⟩ := h
  refine ⟨h1, h2, ?_⟩
  unfold Num
  have hop : x.op = 1 ∨ x.op = 2 ∨ x.op = 3 ∨ x.op = 4 ∨ x.op = 5 ∨ x.op = 6 ∨ x.op = 7 ∨ x.op = 8 ∨ x.op = 9 ∨ x.op = 10 := by omega
  rcases hop with e | e | e | e | e | e | e | e | e | e <;> rw [e] at h4 h5 <;> simp [boundsV] at h4 h5 <;> omega
theorem gift_at {l : List Term} {v : Int} {H : List Int} {T : Nat → List Tr} (hv : Ver l v H T) {i : Nat} (hi : i < l.length) {p h : Int} (hg : (⟨p, h⟩ : Term) ∈ giftsF (insAt l i) i (ig H i)) : ig H p = h := (hv.gifts i hi _ hg).1
theorem loops_top {E : Env} {tr : List Tr} {f : Nat × List Int} {r : List (Nat × List Int)} (h : LoopsOK E tr (f :: r)) : ∃ D t, tr = D ++ [t] ∧ t.1 = (f.1 : Int) ∧ LoopsOK E D r := by
  have hs := h.same
  rw [List.map_cons, List.reverse_cons] at hs
  rcases nil_or_concat' tr with e | ⟨D, t, e⟩
  · subst e; simp at hs
  · subst e
    rw [List.map_append] at hs
    obtain ⟨h1, h2⟩ := List.append_inj' hs rfl
    exact ⟨D, t, rfl, by simpa using h2, h1, fun f hf => h.vals f (List.mem_cons_of_mem _ hf)⟩
theorem loops_nil {E : Env} {tr : List Tr} (h : LoopsOK E tr []) : tr = [] := by
  have := h.same
  simpa using this
theorem port_ok {E : Env} {tr : List Tr} {s : MS} (h : LoopsOK E tr s.loops) (hne : tr ≠ []) : 0 ≤ portM s ∧ portM s < E.deg := by
  unfold portM
  cases hl : s.loops with
  | nil => rw [hl] at h; exact absurd (loops_nil h) hne
  | cons f r =>
    rw [hl] at h
    have := (h.vals f (List.mem_cons_self ..)).1
    dsimp only
    omega
theorem tail_len (l : List Int) (h : 1 ≤ l.length) : (l.tail.length : Int) = l.length - 1 := by rw [List.length_tail]; omega
theorem head_num {l : List Int} (h : ∀ x ∈ l, Num x) : Num (l.headD 0) := by
  cases l with
  | nil => unfold Num; simp
  | cons a l => exact h a (List.mem_cons_self ..)
theorem tail_num {l : List Int} (h : ∀ x ∈ l, Num x) : ∀ x ∈ l.tail, Num x := fun x hx => h x (List.mem_of_mem_tail hx)
theorem cons_num {l : List Int} {a : Int} (ha : Num a) (h : ∀ x ∈ l, Num x) : ∀ x ∈ a :: l, Num x := fun x hx => by
  rcases List.mem_cons.1 hx with rfl | hx
  · exact ha
  · exact h x hx
theorem unary_num {op a : Int} (h : Num a) : Num (unaryF op a) := by
  unfold unaryF
  split
  · unfold Num at *; omega
  · exact truthI_num _
/-- Where a step leads: the place behind, with the same loops; a place ahead, with the same loops; or as a loop goes. -/
theorem same_next {l : List Term} {v : Int} {H : List Int} {T : Nat → List Tr} (hv : Ver l v H T) {i : Nat} (hi : i < l.length) (h9 : (insAt l i).op ≠ 9) (h10 : (insAt l i).op ≠ 10) : T (i + 1) = T i := by
  rw [hv.next i hi, trNext_same h9 h10]
theorem same_jump {l : List Term} {v : Int} {H : List Int} {T : Nat → List Tr} (hv : Ver l v H T) {i : Nat} (hi : i < l.length) (h78 : (insAt l i).op = 7 ∨ (insAt l i).op = 8) : i < (insAt l i).arg.toNat ∧ (insAt l i).arg.toNat ≤ l.length ∧ (((insAt l i).arg.toNat : Nat) : Int) = (insAt l i).arg ∧ T (insAt l i).arg.toNat = T i ∧ (insAt l i).arg ≤ (innerF (T i) l.length).2.1 := by
  obtain ⟨_, _, _, _, _, _, h7⟩ := checks_parts (hv.checks i hi)
  obtain ⟨j1, j2, j3⟩ := jump_parts h7 h78
  have hin : (innerF (T i) l.length).2.1 ≤ l.length := by
    rcases nil_or_concat' (T i) with e | ⟨D, t, e⟩
    · rw [e]; simp [innerF]
    · rw [e, inner_last]
      obtain ⟨a, b, c1, _, _, _, c5, _⟩ := ver_nested hv i (by omega) D t [] e
      rw [c1]; dsimp only; omega
  obtain ⟨a, ha⟩ := Int.eq_ofNat_of_zero_le (show 0 ≤ (insAt l i).arg by omega)
  rw [ha] at j1 j2 j3 ⊢
  rw [Int.toNat_natCast]
  refine ⟨by omega, by omega, rfl, ?_, j2⟩
  refine ver_jump hv (by omega) (by omega) j2 fun k h1 h2 h9 => ?_
  by_cases hk : k = i
  · subst hk; omega
  · exact clear_parts j3 k (by omega) h2 (by omega) h9
/-- A loop: its INext stands where it says, its body has the loop open. -/
theorem loop_place {l : List Term} {v : Int} {H : List Int} {T : Nat → List Tr} (hv : Ver l v H T) {i : Nat} (hi : i < l.length) (h9 : (insAt l i).op = 9) :
    ∃ a : Nat, (insAt l i).arg = (a : Int) ∧ i < a ∧ a < l.length ∧ (insAt l a).op = 10 ∧ T (i + 1) = T i ++ [((i : Int), (a : Int), ig H i)] ∧ T a = T (i + 1) ∧ T (a + 1) = T i ∧ ig H (i + 1 : Nat) = ig H i ∧ ig H a = ig H i + 1 ∧ ig H (a + 1 : Nat) = ig H i + 1 := by
  obtain ⟨_, _, _, _, h5, _, _⟩ := checks_parts (hv.checks i hi)
  obtain ⟨e1, e2, e3, e4, e5⟩ := each_parts h5 h9
  obtain ⟨a, ha⟩ := Int.eq_ofNat_of_zero_le (show 0 ≤ (insAt l i).arg by omega)
  rw [ha] at e1 e2 e3 e5
  have hT1 : T (i + 1) = T i ++ [((i : Int), (a : Int), ig H i)] := by
    rw [hv.next i hi]; unfold trNext; rw [if_pos h9, ha]
  have hTa : T a = T (i + 1) := by
    refine ver_jump hv (by omega) (by omega) (by rw [hT1, inner_last]; exact Int.le_refl _) fun k h1 h2 hk9 => ?_
    obtain ⟨_, _, _, _, k5, _, _⟩ := checks_parts (hv.checks k (by omega))
    obtain ⟨f1, f2, f3, f4, f5⟩ := each_parts k5 hk9
    -- the loop of i is open at k, so that a loop there ends ahead of a
    have hopen : ∀ n, i + 1 + n ≤ a → ∃ E, T (i + 1 + n) = T i ++ ((i : Int), (a : Int), ig H i) :: E := by
      intro n
      induction n with
      | zero => intro _; exact ⟨[], hT1⟩
      | succ n ih =>
        intro hn
        obtain ⟨E, hE⟩ := ih (by omega)
        have hpl : i + 1 + n < l.length := by omega
        rw [show i + 1 + (n + 1) = i + 1 + n + 1 from rfl, hv.next _ hpl]
        obtain ⟨_, _, _, _, _, h6, _⟩ := checks_parts (hv.checks _ hpl)
        unfold trNext
        split
        · exact ⟨E ++ [(((i + 1 + n : Nat) : Int), (insAt l (i + 1 + n : Nat)).arg, ig H (i + 1 + n : Nat))], by rw [hE, List.append_assoc, List.cons_append]⟩
        · split
          · rename_i h10
            obtain ⟨n1, n2⟩ := next_parts h6 h10
            rcases nil_or_concat' E with hE0 | ⟨D, d, hE0⟩
            · subst hE0
              rw [hE, inner_last] at n1
              dsimp only at n1
              omega
            · subst hE0
              exact ⟨D, by rw [hE, ← List.cons_append, ← List.append_assoc, List.dropLast_concat]⟩
          · exact ⟨E, hE⟩
    obtain ⟨E, hE⟩ := hopen (k - (i + 1)) (by omega)
    rw [show i + 1 + (k - (i + 1)) = k by omega] at hE
    rcases nil_or_concat' E with hE0 | ⟨D, d, hE0⟩
    · subst hE0
      rw [hE, inner_last] at f5
      exact f5
    · subst hE0
      obtain ⟨_, nx, g1, _, _, _, _, _, _, g8⟩ := ver_nested hv k (by omega) (T i) _ (D ++ [d]) hE
      have g9 := g8 d (by simp)
      simp only [Prod.mk.injEq] at g1
      rw [hE, ← List.cons_append, ← List.append_assoc, inner_last] at f5
      omega
  have hTn : T (a + 1) = T i := by
    rw [hv.next a (by omega)]
    unfold trNext
    rw [if_neg (by omega), if_pos e3, hTa, hT1, List.dropLast_concat]
  obtain ⟨_, _, _, _, _, h6, _⟩ := checks_parts (hv.checks a (by omega))
  obtain ⟨n1, n2⟩ := next_parts h6 e3
  rw [hTa, hT1, inner_last] at n2
  have g9 : giftsF (insAt l i) i (ig H i) = [⟨i + 1, ig H i⟩, ⟨(a : Int) + 1, ig H i + 1⟩] := by
    unfold giftsF
    rw [if_neg (by omega), if_neg (by omega), if_neg (by omega), if_neg (by omega), if_pos h9, ha]
  exact ⟨a, ha, by omega, by omega, e3, hT1, hTa, hTn, by have := gift_at hv hi (p := (i : Int) + 1) (h := ig H i) (by rw [g9]; simp); rw [← this]; rfl, n2, by have := gift_at hv hi (p := (a : Int) + 1) (h := ig H i + 1) (by rw [g9]; simp); rw [← this]; rfl⟩

set_option maxHeartbeats 2000000 in
/-- What holds ahead of a step holds behind it. -/
theorem inv_step {E : Env} {l : List Term} {v : Int} {H : List Int} {T : Nat → List Tr} (hv : Ver l v H T) (hE : EnvOK E v) (hfold : ∀ (op : Int) (l : List Int), (∀ x ∈ l, Num x) → l.length < 24 → Num (foldF op l)) (hd : E.deg < 24) {s : MS} (hs : MInv E l H T s) (hp : s.place < l.length) : MInv E l H T (stepM E l s) := by
  obtain ⟨c1, c2, c3, c4, c5, c6, _⟩ := checks_parts (hv.checks s.place hp)
  obtain ⟨k1, k2, k3, k4, k5, k6, k7, k8, k9⟩ := known_parts c2
  have hh := hs.height
  have hgift := fun (p h : Int) (hg : (⟨p, h⟩ : Term) ∈ giftsF (insAt l s.place) s.place (ig H s.place)) => gift_at hv hp hg
  have hsame := fun h9 h10 => same_next hv hp h9 h10
  have hport : needsF (insAt l s.place) = true → 0 ≤ portM s ∧ portM s < E.deg := fun hn => by
    rw [hn] at c3
    exact port_ok hs.loops (fun e => by rw [e] at c3; simp at c3)
  unfold stepM
  dsimp only
  split
  · rename_i e
    have hg := hgift (s.place + 1) (ig H s.place + 1) (by unfold giftsF; rw [if_pos (by omega)]; exact List.mem_cons_self ..)
    exact ⟨by show s.place + 1 ≤ _; omega, by show (((_ :: s.stack).length : Nat) : Int) = ig H ((s.place + 1 : Nat) : Int); rw [List.length_cons]; push_cast; rw [hg]; omega, cons_num (k3 e) hs.nums, by show LoopsOK E (T (s.place + 1)) s.loops; rw [hsame (by omega) (by omega)]; exact hs.loops⟩
  split
  · rename_i e
    have hg := hgift (s.place + 1) (ig H s.place + 1) (by unfold giftsF; rw [if_pos (by omega)]; exact List.mem_cons_self ..)
    have ha := k4 (.inl e)
    exact ⟨by show s.place + 1 ≤ _; omega, by show (((_ :: s.stack).length : Nat) : Int) = ig H ((s.place + 1 : Nat) : Int); rw [List.length_cons]; push_cast; rw [hg]; omega, cons_num (hE.load _ ha.1 ha.2) hs.nums, by show LoopsOK E (T (s.place + 1)) s.loops; rw [hsame (by omega) (by omega)]; exact hs.loops⟩
  split
  · rename_i e
    have hg := hgift (s.place + 1) (ig H s.place + 1) (by unfold giftsF; rw [if_pos (by omega)]; exact List.mem_cons_self ..)
    have ha := k4 (.inr e)
    have hpt := hport (by unfold needsF; simp [e])
    exact ⟨by show s.place + 1 ≤ _; omega, by show (((_ :: s.stack).length : Nat) : Int) = ig H ((s.place + 1 : Nat) : Int); rw [List.length_cons]; push_cast; rw [hg]; omega, cons_num (hE.near (portM s) _ hpt.1 hpt.2 ha.1 ha.2) hs.nums, by show LoopsOK E (T (s.place + 1)) s.loops; rw [hsame (by omega) (by omega)]; exact hs.loops⟩
  split
  · rename_i e
    have hg := hgift (s.place + 1) (ig H s.place + 1) (by unfold giftsF; rw [if_pos (by omega)]; exact List.mem_cons_self ..)
    have ha := k5 e
    have hpt : 11 ≤ (insAt l s.place).arg → 0 ≤ portM s ∧ portM s < E.deg := fun h11 => hport (by unfold needsF; simp [e, h11])
    exact ⟨by show s.place + 1 ≤ _; omega, by show (((_ :: s.stack).length : Nat) : Int) = ig H ((s.place + 1 : Nat) : Int); rw [List.length_cons]; push_cast; rw [hg]; omega, cons_num (hE.fact (portM s) _ ha.1 ha.2.1 ha.2.2 hpt) hs.nums, by show LoopsOK E (T (s.place + 1)) s.loops; rw [hsame (by omega) (by omega)]; exact hs.loops⟩
  split
  · rename_i e
    have hg := hgift (s.place + 1) (ig H s.place) (by unfold giftsF; rw [if_neg (by omega), if_neg (by omega), if_neg (by omega), if_neg (by omega), if_neg (by omega)]; exact List.mem_cons_self ..)
    have hw : 1 ≤ ig H s.place := by unfold wantsF at c4; rw [if_pos (by omega)] at c4; exact c4
    have ht := tail_len s.stack (by omega)
    exact ⟨by show s.place + 1 ≤ _; omega, by show (((_ :: s.stack.tail).length : Nat) : Int) = ig H ((s.place + 1 : Nat) : Int); rw [List.length_cons]; push_cast; rw [hg]; omega, cons_num (unary_num (head_num hs.nums)) (tail_num hs.nums), by show LoopsOK E (T (s.place + 1)) s.loops; rw [hsame (by omega) (by omega)]; exact hs.loops⟩
  split
  · rename_i e
    have hg := hgift (s.place + 1) (ig H s.place - 1) (by unfold giftsF; rw [if_neg (by omega), if_pos (by omega)]; exact List.mem_cons_self ..)
    have hw : 2 ≤ ig H s.place := by unfold wantsF at c4; rw [if_neg (by omega), if_pos (by omega)] at c4; exact c4
    have ht := tail_len s.stack (by omega)
    have ht2 := tail_len s.stack.tail (by omega)
    exact ⟨by show s.place + 1 ≤ _; omega, by show (((_ :: s.stack.tail.tail).length : Nat) : Int) = ig H ((s.place + 1 : Nat) : Int); rw [List.length_cons]; push_cast; rw [hg]; omega, cons_num (satF_num _) (tail_num (tail_num hs.nums)), by show LoopsOK E (T (s.place + 1)) s.loops; rw [hsame (by omega) (by omega)]; exact hs.loops⟩
  split
  · rename_i e
    have hgl : giftsF (insAt l s.place) s.place (ig H s.place) = [⟨s.place + 1, ig H s.place - 1⟩, ⟨(insAt l s.place).arg, ig H s.place - 1⟩] := by unfold giftsF; rw [if_neg (by omega), if_neg (by omega), if_pos (by omega)]
    have hg := hgift (s.place + 1) (ig H s.place - 1) (by rw [hgl]; simp)
    have hg2 := hgift (insAt l s.place).arg (ig H s.place - 1) (by rw [hgl]; simp)
    have hw : 1 ≤ ig H s.place := by unfold wantsF at c4; rw [if_pos (by omega)] at c4; exact c4
    have ht := tail_len s.stack (by omega)
    obtain ⟨j1, j2, j3, j4, _⟩ := same_jump hv hp (.inl e)
    by_cases h0 : top1 s = 0
    · rw [if_pos h0]
      exact ⟨j2, by show ((s.stack.tail.length : Nat) : Int) = ig H (((insAt l s.place).arg.toNat : Nat) : Int); rw [j3, hg2]; omega, tail_num hs.nums, by show LoopsOK E (T (insAt l s.place).arg.toNat) s.loops; rw [j4]; exact hs.loops⟩
    · rw [if_neg h0]
      exact ⟨by show s.place + 1 ≤ _; omega, by show ((s.stack.tail.length : Nat) : Int) = ig H ((s.place + 1 : Nat) : Int); push_cast; rw [hg]; omega, tail_num hs.nums, by show LoopsOK E (T (s.place + 1)) s.loops; rw [hsame (by omega) (by omega)]; exact hs.loops⟩
  split
  · rename_i e
    have hg2 := hgift (insAt l s.place).arg (ig H s.place) (by unfold giftsF; rw [if_neg (by omega), if_neg (by omega), if_neg (by omega), if_pos (by omega)]; exact List.mem_cons_self ..)
    obtain ⟨j1, j2, j3, j4, _⟩ := same_jump hv hp (.inr e)
    exact ⟨j2, by show ((s.stack.length : Nat) : Int) = ig H (((insAt l s.place).arg.toNat : Nat) : Int); rw [j3, hg2]; omega, hs.nums, by show LoopsOK E (T (insAt l s.place).arg.toNat) s.loops; rw [j4]; exact hs.loops⟩
  split
  · rename_i e
    obtain ⟨a, a1, a2, a3, a4, a5, a6, a7, a8, a9, a10⟩ := loop_place hv hp e
    split
    · rename_i h0
      rw [a1, Int.toNat_natCast]
      exact ⟨by show a + 1 ≤ _; omega, by show (((_ :: s.stack).length : Nat) : Int) = ig H ((a + 1 : Nat) : Int); rw [List.length_cons, a10]; push_cast; omega, cons_num (hfold _ _ (fun x hx => by cases hx) (by simp)) hs.nums, by show LoopsOK E (T (a + 1)) s.loops; rw [a7]; exact hs.loops⟩
    · rename_i h0
      refine ⟨by show s.place + 1 ≤ _; omega, by show ((s.stack.length : Nat) : Int) = ig H ((s.place + 1 : Nat) : Int); rw [a8]; exact hh, hs.nums, ?_⟩
      show LoopsOK E (T (s.place + 1)) ((s.place, []) :: s.loops)
      rw [a5]
      refine ⟨by rw [List.map_append, hs.loops.same]; simp, fun f hf => ?_⟩
      rcases List.mem_cons.1 hf with rfl | hf
      · exact ⟨by dsimp only [List.length_nil]; omega, fun x hx => by cases hx⟩
      · exact hs.loops.vals f hf
  · have e10 : (insAt l s.place).op = 10 := by omega
    obtain ⟨n1, n2⟩ := next_parts c6 e10
    unfold nextM
    cases hl : s.loops with
    | nil =>
      have hlo := hs.loops
      rw [hl] at hlo
      rw [loops_nil hlo] at n1
      simp [innerF] at n1
      omega
    | cons f r =>
      have hlo := hs.loops
      rw [hl] at hlo
      obtain ⟨D, t, hT, ht, hD⟩ := loops_top hlo
      rw [hT, inner_last] at n1 n2
      obtain ⟨e0, nx, b1, b2, b3, b4, b5, b6, b7, _⟩ := ver_nested hv s.place (by omega) D t [] hT
      rw [b1] at n1 n2 ht
      dsimp only at n1 n2 ht
      have hef : e0 = f.1 := by omega
      have hnx : nx = s.place := by omega
      subst hnx
      obtain ⟨a, a1, a2, a3, a4, a5, a6, a7, a8, a9, a10⟩ := loop_place hv (i := e0) (by omega) (by rw [b6])
      rw [b6] at a1
      dsimp only at a1
      have hae : a = s.place := by omega
      have hpos := (checks_parts (hv.checks e0 (by omega))).1
      have ht1 := tail_len s.stack (by omega)
      obtain ⟨v1, v2⟩ := hlo.vals f (List.mem_cons_self ..)
      have hvn : ∀ x ∈ f.2 ++ [top1 s], Num x := fun x hx => by
        rw [List.mem_append] at hx
        rcases hx with hx | hx
        · exact v2 x hx
        · simp at hx; subst hx; exact head_num hs.nums
      dsimp only
      split
      · rename_i hlt
        refine ⟨by show f.1 + 1 ≤ _; omega, by show ((s.stack.tail.length : Nat) : Int) = ig H ((f.1 + 1 : Nat) : Int); rw [← hef, a8]; omega, tail_num hs.nums, ?_⟩
        show LoopsOK E (T (f.1 + 1)) ((f.1, f.2 ++ [top1 s]) :: r)
        rw [← hef, a5, ← b2]
        refine ⟨?_, fun f' hf' => ?_⟩
        · rw [List.map_append, hD.same]; simp
        · rcases List.mem_cons.1 hf' with rfl | hf'
          · exact ⟨by dsimp only; rw [List.length_append]; simpa using hlt, hvn⟩
          · exact hD.vals f' hf'
      · rename_i hge
        refine ⟨by show s.place + 1 ≤ _; omega, by show (((_ :: s.stack.tail).length : Nat) : Int) = ig H ((s.place + 1 : Nat) : Int); rw [List.length_cons, ← hae, a10]; push_cast; omega, cons_num (hfold _ _ hvn (by rw [List.length_append]; simp; omega)) (tail_num hs.nums), ?_⟩
        show LoopsOK E (T (s.place + 1)) r
        rw [← hae, a7, ← b2]
        exact hD

end Go.Proofs.YtaifafljakojnaaGreat

/- The machine ends: how many steps may still come, at most. -/
namespace Go.Proofs.YtaifafljakojnaaGreat

def wtD (T : Nat → List Tr) (d j i : Nat) : Nat := d ^ ((T i).length - j)
/-- The weight of the places from a to b, as seen from inside j loops. -/
def wtsD (T : Nat → List Tr) (d j a b : Nat) : Nat := ((List.range' a (b - a)).map (wtD T d j)).sum
theorem wtD_pos {T : Nat → List Tr} {d j i : Nat} (hd : 1 ≤ d) : 1 ≤ wtD T d j i := Nat.one_le_pow _ _ hd
theorem wtsD_split {T : Nat → List Tr} {d j a m b : Nat} (h1 : a ≤ m) (h2 : m ≤ b) : wtsD T d j a b = wtsD T d j a m + wtsD T d j m b := by
  unfold wtsD
  have := List.range'_append_1 (s := a) (m := m - a) (n := b - m)
  rw [show a + (m - a) = m by omega, show m - a + (b - m) = b - a by omega] at this
  rw [← this, List.map_append, List.sum_append]
theorem wtsD_step {T : Nat → List Tr} {d j a b : Nat} (h : a < b) : wtsD T d j a b = wtD T d j a + wtsD T d j (a + 1) b := by
  rw [wtsD_split (m := a + 1) (by omega) (by omega)]
  congr 1
  unfold wtsD
  rw [show a + 1 - a = 1 by omega]
  simp
theorem wtsD_fwd {T : Nat → List Tr} {d j a m b : Nat} (hd : 1 ≤ d) (h1 : a < m) (h2 : m ≤ b) : wtsD T d j m b + 1 ≤ wtsD T d j a b := by
  have e1 := wtsD_step (T := T) (d := d) (j := j) (a := a) (b := b) (by omega)
  have e2 := wtsD_split (T := T) (d := d) (j := j) (a := a + 1) (m := m) (b := b) (by omega) h2
  have := wtD_pos (T := T) (j := j) (i := a) hd
  omega
theorem wtsD_scale {T : Nat → List Tr} {d j a : Nat} : ∀ n, (∀ i, a ≤ i → i < a + n → j + 1 ≤ (T i).length) → wtsD T d j a (a + n) = d * wtsD T d (j + 1) a (a + n) := by
  intro n
  induction n with
  | zero => intro _; simp [wtsD]
  | succ n ih =>
    intro h
    have e1 := wtsD_split (T := T) (d := d) (j := j) (a := a) (m := a + n) (b := a + (n + 1)) (by omega) (by omega)
    have e2 := wtsD_split (T := T) (d := d) (j := j + 1) (a := a) (m := a + n) (b := a + (n + 1)) (by omega) (by omega)
    have e3 := wtsD_step (T := T) (d := d) (j := j) (a := a + n) (b := a + (n + 1)) (by omega)
    have e4 := wtsD_step (T := T) (d := d) (j := j + 1) (a := a + n) (b := a + (n + 1)) (by omega)
    have z1 : wtsD T d j (a + n + 1) (a + (n + 1)) = 0 := by unfold wtsD; rw [show a + (n + 1) - (a + n + 1) = 0 by omega]; rfl
    have z2 : wtsD T d (j + 1) (a + n + 1) (a + (n + 1)) = 0 := by unfold wtsD; rw [show a + (n + 1) - (a + n + 1) = 0 by omega]; rfl
    have hw : wtD T d j (a + n) = d * wtD T d (j + 1) (a + n) := by
      have := h (a + n) (by omega) (by omega)
      unfold wtD
      rw [show (T (a + n)).length - j = ((T (a + n)).length - (j + 1)) + 1 by omega, Nat.pow_succ, Nat.mul_comm]
    rw [e1, e2, e3, e4, z1, z2, ih (fun i a b => h i a (by omega)), hw, Nat.mul_add, Nat.add_zero (d * wtD T d (j + 1) (a + n)), Nat.add_zero (wtD T d (j + 1) (a + n))]
theorem wtsD_bound {T : Nat → List Tr} {d a : Nat} (hd : 1 ≤ d) : ∀ n, (∀ i, a ≤ i → i < a + n → (T i).length ≤ 2) → wtsD T d 0 a (a + n) ≤ n * (d * d) := by
  intro n
  induction n with
  | zero => intro _; simp [wtsD]
  | succ n ih =>
    intro h
    have e1 := wtsD_split (T := T) (d := d) (j := 0) (a := a) (m := a + n) (b := a + (n + 1)) (by omega) (by omega)
    have e3 := wtsD_step (T := T) (d := d) (j := 0) (a := a + n) (b := a + (n + 1)) (by omega)
    have z1 : wtsD T d 0 (a + n + 1) (a + (n + 1)) = 0 := by unfold wtsD; rw [show a + (n + 1) - (a + n + 1) = 0 by omega]; rfl
    have hw : wtD T d 0 (a + n) ≤ d * d := by
      unfold wtD
      have := Nat.pow_le_pow_right hd (show (T (a + n)).length - 0 ≤ 2 by have := h (a + n) (by omega) (by omega); omega)
      rw [Nat.pow_two] at this
      exact this
    have := ih (fun i a b => h i a (by omega))
    rw [Nat.succ_mul]
    omega

def nxt (l : List Term) (e : Nat) : Nat := (insAt l e).arg.toNat
def potL (T : Nat → List Tr) (d : Nat) (l : List Term) : Nat → List (Nat × Nat) → Nat
  | p, [] => wtsD T d 0 p l.length
  | p, f :: r => wtsD T d (r.length + 1) p (nxt l f.1 + 1) + (d - 1 - f.2) * wtsD T d (r.length + 1) (f.1 + 1) (nxt l f.1 + 1) + potL T d l (nxt l f.1 + 1) r
def boundL (l : List Term) : List (Nat × Nat) → Nat
  | [] => l.length
  | f :: _ => nxt l f.1 + 1
def shapeL (s : MS) : List (Nat × Nat) := s.loops.map fun f => (f.1, f.2.length)
def potM (E : Env) (l : List Term) (T : Nat → List Tr) (s : MS) : Nat := potL T (max E.deg 1) l s.place (shapeL s)
theorem potL_split {T : Nat → List Tr} {d : Nat} {l : List Term} {p m : Nat} {L : List (Nat × Nat)} (h1 : p ≤ m) (h2 : m ≤ boundL l L) : potL T d l p L = wtsD T d L.length p m + potL T d l m L := by
  cases L with
  | nil => exact wtsD_split h1 h2
  | cons f r =>
    have h2' : m ≤ nxt l f.1 + 1 := h2
    unfold potL
    rw [wtsD_split h1 h2', List.length_cons]
    omega
theorem potL_fwd {T : Nat → List Tr} {d : Nat} {l : List Term} {p m : Nat} {L : List (Nat × Nat)} (hd : 1 ≤ d) (h1 : p < m) (h2 : m ≤ boundL l L) : potL T d l m L + 1 ≤ potL T d l p L := by
  rw [potL_split (p := p) (m := m) (by omega) h2]
  have := wtsD_fwd (T := T) (j := L.length) hd h1 (Nat.le_refl m)
  omega
/-- The body of a loop has the loop open. -/
theorem loop_open {l : List Term} {v : Int} {H : List Int} {T : Nat → List Tr} (hv : Ver l v H T) {i a : Nat} (ha : a < l.length) (hT1 : T (i + 1) = T i ++ [((i : Int), (a : Int), ig H i)]) : ∀ n, i + 1 + n ≤ a → ∃ E, T (i + 1 + n) = T i ++ ((i : Int), (a : Int), ig H i) :: E := by
  intro n
  induction n with
  | zero => intro _; exact ⟨[], hT1⟩
  | succ n ih =>
    intro hn
    obtain ⟨E, hE⟩ := ih (by omega)
    have hpl : i + 1 + n < l.length := by omega
    rw [show i + 1 + (n + 1) = i + 1 + n + 1 from rfl, hv.next _ hpl]
    obtain ⟨_, _, _, _, _, h6, _⟩ := checks_parts (hv.checks _ hpl)
    unfold trNext
    split
    · exact ⟨E ++ [(((i + 1 + n : Nat) : Int), (insAt l (i + 1 + n : Nat)).arg, ig H (i + 1 + n : Nat))], by rw [hE, List.append_assoc, List.cons_append]⟩
    · split
      · rename_i h10
        obtain ⟨n1, n2⟩ := next_parts h6 h10
        rcases nil_or_concat' E with hE0 | ⟨D, d, hE0⟩
        · subst hE0
          rw [hE, inner_last] at n1
          dsimp only at n1
          omega
        · subst hE0
          exact ⟨D, by rw [hE, ← List.cons_append, ← List.append_assoc, List.dropLast_concat]⟩
      · exact ⟨E, hE⟩
theorem ver_depth {l : List Term} {v : Int} {H : List Int} {T : Nat → List Tr} (hv : Ver l v H T) : ∀ p, p ≤ l.length → (T p).length ≤ 2 := by
  intro p
  induction p with
  | zero => intro _; rw [hv.start]; simp
  | succ p ih =>
    intro hp
    have := ih (by omega)
    rw [hv.next p (by omega)]
    obtain ⟨_, _, _, _, h5, _, _⟩ := checks_parts (hv.checks p (by omega))
    unfold trNext
    split
    · rename_i h9
      have := (each_parts h5 h9).2.2.2.1
      simp; omega
    · split
      · rw [List.length_dropLast]; omega
      · exact this
theorem loops_len {E : Env} {tr : List Tr} {L : List (Nat × List Int)} (h : LoopsOK E tr L) : tr.length = L.length := by
  have := congrArg List.length h.same
  simpa using this
/-- How far the innermost open loop, or the list, reaches. -/
theorem bound_inner {E : Env} {l : List Term} {v : Int} {H : List Int} {T : Nat → List Tr} (hv : Ver l v H T) {s : MS} (hs : MInv E l H T s) (hp : s.place < l.length) : s.place + 1 ≤ boundL l (shapeL s) ∧ ∀ a : Nat, a ≤ l.length → (a : Int) ≤ (innerF (T s.place) l.length).2.1 → a ≤ boundL l (shapeL s) := by
  unfold shapeL
  cases hl : s.loops with
  | nil => exact ⟨hp, fun a h _ => h⟩
  | cons f r =>
    have hlo := hs.loops
    rw [hl] at hlo
    obtain ⟨D, t, hT, ht, hD⟩ := loops_top hlo
    obtain ⟨e0, nx, b1, b2, b3, b4, b5, b6, b7, _⟩ := ver_nested hv s.place (by omega) D t [] hT
    rw [hT, inner_last, b1]
    rw [b1] at ht
    dsimp only at ht
    have hef : e0 = f.1 := by omega
    rw [List.map_cons]
    show s.place + 1 ≤ nxt l f.1 + 1 ∧ ∀ a : Nat, a ≤ l.length → (a : Int) ≤ nx → a ≤ nxt l f.1 + 1
    have : nxt l f.1 = nx := by unfold nxt; rw [← hef, b6, Int.toNat_natCast]
    rw [this]
    exact ⟨by omega, fun a _ h => by omega⟩
set_option maxHeartbeats 1000000 in
theorem pot_step {E : Env} {l : List Term} {v : Int} {H : List Int} {T : Nat → List Tr} (hv : Ver l v H T) {s : MS} (hs : MInv E l H T s) (hp : s.place < l.length) : potM E l T (stepM E l s) + 1 ≤ potM E l T s := by
  obtain ⟨c1, c2, c3, c4, c5, c6, _⟩ := checks_parts (hv.checks s.place hp)
  obtain ⟨k1, k2, k3, k4, k5, k6, k7, k8, k9⟩ := known_parts c2
  obtain ⟨g1, g2⟩ := bound_inner hv hs hp
  have hd : 1 ≤ max E.deg 1 := by omega
  have fwd : ∀ (m : Nat) (st : List Int), s.place < m → m ≤ boundL l (shapeL s) → potM E l T ⟨m, st, s.loops⟩ + 1 ≤ potM E l T s := fun m st h1 h2 => potL_fwd hd h1 h2
  unfold stepM
  dsimp only
  split
  · exact fwd _ _ (by omega) g1
  split
  · exact fwd _ _ (by omega) g1
  split
  · exact fwd _ _ (by omega) g1
  split
  · exact fwd _ _ (by omega) g1
  split
  · exact fwd _ _ (by omega) g1
  split
  · exact fwd _ _ (by omega) g1
  split
  · rename_i e
    obtain ⟨j1, j2, j3, j4, j5⟩ := same_jump hv hp (.inl e)
    split
    · exact fwd _ _ j1 (g2 _ j2 (by omega))
    · exact fwd _ _ (by omega) g1
  split
  · rename_i e
    obtain ⟨j1, j2, j3, j4, j5⟩ := same_jump hv hp (.inr e)
    exact fwd _ _ j1 (g2 _ j2 (by omega))
  split
  · rename_i e
    obtain ⟨a, a1, a2, a3, a4, a5, a6, a7, a8, a9, a10⟩ := loop_place hv hp e
    have hab : a + 1 ≤ boundL l (shapeL s) := by
      obtain ⟨_, _, _, _, f5⟩ := each_parts c5 e
      rw [a1] at f5
      refine g2 (a + 1) (by omega) (by omega)
    split
    · rw [a1, Int.toNat_natCast]
      exact fwd _ _ (by omega) hab
    · rename_i h0
      have hlen := loops_len hs.loops
      have hsl : (shapeL s).length = s.loops.length := by simp [shapeL]
      have hnx : nxt l s.place = a := by unfold nxt; rw [a1, Int.toNat_natCast]
      have e1 := potL_split (T := T) (d := max E.deg 1) (l := l) (p := s.place) (m := a + 1) (L := shapeL s) (by omega) hab
      have e2 := wtsD_step (T := T) (d := max E.deg 1) (j := (shapeL s).length) (a := s.place) (b := a + 1) (by omega)
      have e3 := wtD_pos (T := T) (d := max E.deg 1) (j := (shapeL s).length) (i := s.place) hd
      have e4 := wtsD_scale (T := T) (d := max E.deg 1) (j := (shapeL s).length) (a := s.place + 1) (a - s.place) (fun i h1 h2 => by
        obtain ⟨E', hE'⟩ := loop_open hv a3 a5 (i - (s.place + 1)) (by omega)
        rw [show s.place + 1 + (i - (s.place + 1)) = i by omega] at hE'
        rw [hE', List.length_append, List.length_cons]
        omega)
      rw [show s.place + 1 + (a - s.place) = a + 1 by omega] at e4
      show potL T (max E.deg 1) l (s.place + 1) ((s.place, 0) :: shapeL s) + 1 ≤ potL T (max E.deg 1) l s.place (shapeL s)
      rw [e1, e2, e4, potL]
      dsimp only
      rw [hnx]
      obtain ⟨q, hq⟩ : ∃ q, max E.deg 1 = q + 1 := ⟨max E.deg 1 - 1, by omega⟩
      rw [hq, show q + 1 - 1 - 0 = q by omega, Nat.succ_mul]
      rw [hq] at e3
      omega
  · have e10 : (insAt l s.place).op = 10 := by omega
    obtain ⟨n1, n2⟩ := next_parts c6 e10
    unfold nextM
    cases hl : s.loops with
    | nil =>
      have hlo := hs.loops
      rw [hl] at hlo
      rw [loops_nil hlo] at n1
      simp [innerF] at n1
      omega
    | cons f r =>
      have hlo := hs.loops
      rw [hl] at hlo
      obtain ⟨D, t, hT, ht, hD⟩ := loops_top hlo
      rw [hT, inner_last] at n1 n2
      obtain ⟨e0, nx, b1, b2, b3, b4, b5, b6, b7, _⟩ := ver_nested hv s.place (by omega) D t [] hT
      rw [b1] at n1 n2 ht
      dsimp only at n1 n2 ht
      have hef : e0 = f.1 := by omega
      have hnp : nx = s.place := by omega
      have hnx : nxt l f.1 = s.place := by unfold nxt; rw [← hef, b6, Int.toNat_natCast, hnp]
      have e3 := wtD_pos (T := T) (d := max E.deg 1) (j := r.length + 1) (i := s.place) hd
      have e2 := wtsD_step (T := T) (d := max E.deg 1) (j := r.length + 1) (a := s.place) (b := s.place + 1) (by omega)
      have hpot : potM E l T s = wtsD T (max E.deg 1) (r.length + 1) s.place (s.place + 1) + (max E.deg 1 - 1 - f.2.length) * wtsD T (max E.deg 1) (r.length + 1) (f.1 + 1) (s.place + 1) + potL T (max E.deg 1) l (s.place + 1) (r.map fun f => (f.1, f.2.length)) := by
        unfold potM shapeL
        rw [hl, List.map_cons, potL]
        dsimp only
        rw [hnx, List.length_map]
      rw [hpot]
      dsimp only
      split
      · rename_i hlt
        show potL T (max E.deg 1) l (f.1 + 1) ((f.1, (f.2 ++ [top1 s]).length) :: r.map fun f => (f.1, f.2.length)) + 1 ≤ _
        rw [potL]
        dsimp only
        rw [hnx, List.length_map, List.length_append, List.length_singleton]
        obtain ⟨q, hq⟩ : ∃ q, max E.deg 1 - 1 - f.2.length = q + 1 := ⟨max E.deg 1 - 1 - f.2.length - 1, by omega⟩
        rw [hq, show max E.deg 1 - 1 - (f.2.length + 1) = q by omega, Nat.succ_mul]
        omega
      · show potL T (max E.deg 1) l (s.place + 1) (r.map fun f => (f.1, f.2.length)) + 1 ≤ _
        omega

/-- The run: the state at the end, and the number of steps. -/
def goM (E : Env) (l : List Term) : Nat → MS → MS × Nat
  | 0, s => (s, 0)
  | n + 1, s => if s.place < l.length then ((goM E l n (stepM E l s)).1, (goM E l n (stepM E l s)).2 + 1) else (s, 0)
def startM : MS := ⟨0, [], []⟩
theorem start_minv {E : Env} {l : List Term} {v : Int} {H : List Int} {T : Nat → List Tr} (hv : Ver l v H T) : MInv E l H T startM :=
  ⟨Nat.zero_le _, by show ((0 : Nat) : Int) = ig H ((0 : Nat) : Int); exact hv.zero.symm, (fun x hx => by cases hx), by show LoopsOK E (T 0) []; rw [hv.start]; exact ⟨rfl, fun f hf => (by cases hf)⟩⟩
theorem start_pot {E : Env} {l : List Term} {v : Int} {H : List Int} {T : Nat → List Tr} (hv : Ver l v H T) : potM E l T startM ≤ l.length * (max E.deg 1 * max E.deg 1) := by
  have := wtsD_bound (T := T) (d := max E.deg 1) (a := 0) (by omega) l.length (fun i _ h => ver_depth hv i (by omega))
  rw [Nat.zero_add] at this
  exact this
/-- A run that has fuel enough ends at the end of the list, with as much fuel as it needs. -/
theorem goM_ends {E : Env} {l : List Term} {v : Int} {H : List Int} {T : Nat → List Tr} (hv : Ver l v H T) (hE : EnvOK E v) (hfold : ∀ (op : Int) (l : List Int), (∀ x ∈ l, Num x) → l.length < 24 → Num (foldF op l)) (hd : E.deg < 24) :
    ∀ (n : Nat) (s : MS), MInv E l H T s → potM E l T s ≤ n → MInv E l H T (goM E l n s).1 ∧ (goM E l n s).1.place = l.length ∧ (goM E l n s).2 ≤ potM E l T s := by
  intro n
  induction n with
  | zero =>
    intro s hs hp
    refine ⟨hs, ?_, Nat.zero_le _⟩
    show s.place = l.length
    rcases Nat.lt_or_ge s.place l.length with h | h
    · have := pot_step hv hs h; omega
    · have := hs.place; omega
  | succ n ih =>
    intro s hs hp
    unfold goM
    by_cases h : s.place < l.length
    · rw [if_pos h]
      have h1 := pot_step hv hs h
      obtain ⟨i1, i2, i3⟩ := ih (stepM E l s) (inv_step hv hE hfold hd hs h) (by omega)
      exact ⟨i1, i2, by dsimp only; omega⟩
    · rw [if_neg h]
      exact ⟨hs, by have := hs.place; dsimp only; omega, Nat.zero_le _⟩
/-- More fuel changes nothing. -/
theorem goM_more {E : Env} {l : List Term} : ∀ (n : Nat) (s : MS) (k : Nat), (goM E l n s).1.place = l.length → goM E l (n + k) s = goM E l n s := by
  intro n
  induction n with
  | zero =>
    intro s k h
    have h : s.place = l.length := h
    cases k with
    | zero => rfl
    | succ k => rw [Nat.zero_add]; unfold goM; rw [if_neg (by omega)]
  | succ n ih =>
    intro s k h
    rw [show n + 1 + k = (n + k) + 1 by omega]
    unfold goM at h ⊢
    by_cases hp : s.place < l.length
    · rw [if_pos hp] at h ⊢
      rw [if_pos hp, ih _ k h]
    · rw [if_neg hp]
      rw [if_neg hp]

end Go.Proofs.YtaifafljakojnaaGreat

/- Runs of the machine; the run of an expression's code. -/
namespace Go.Proofs.YtaifafljakojnaaGreat

inductive RunM (E : Env) (l : List Term) : MS → Nat → MS → Prop
  | here (s : MS) : RunM E l s 0 s
  | step {s s' : MS} {n : Nat} : s.place < l.length → RunM E l (stepM E l s) n s' → RunM E l s (n + 1) s'
theorem RunM.trans {E : Env} {l : List Term} {a b c : MS} {n m : Nat} (h : RunM E l a n b) (k : RunM E l b m c) : RunM E l a (n + m) c := by
  induction h with
  | here s => rw [Nat.zero_add]; exact k
  | step hp _ ih => rw [Nat.add_right_comm]; exact .step hp (ih k)
theorem RunM.one {E : Env} {l : List Term} {s s' : MS} (hp : s.place < l.length) (h : stepM E l s = s') : RunM E l s 1 s' := by
  subst h; exact .step hp (.here _)
theorem goM_run {E : Env} {l : List Term} {s s' : MS} {n : Nat} (h : RunM E l s n s') (he : s'.place = l.length) : ∀ m, n ≤ m → goM E l m s = (s', n) := by
  induction h with
  | here s =>
    intro m _
    cases m with
    | zero => rfl
    | succ m => unfold goM; rw [if_neg (by omega)]
  | step hp _ ih =>
    intro m hm
    obtain ⟨k, rfl⟩ : ∃ k, m = k + 1 := ⟨m - 1, by omega⟩
    unfold goM
    rw [if_pos hp, ih he k (by omega)]
theorem run_goM {E : Env} {l : List Term} : ∀ (n : Nat) (s : MS), RunM E l s (goM E l n s).2 (goM E l n s).1 := by
  intro n
  induction n with
  | zero => intro s; exact .here s
  | succ n ih =>
    intro s
    unfold goM
    by_cases hp : s.place < l.length
    · rw [if_pos hp]; exact .step hp (ih _)
    · rw [if_neg hp]; exact .here s

def leafE (E : Env) (port : Int) (t : Term) : Int :=
  if t.op = 1 then t.arg else if t.op = 2 then 1 else if t.op = 3 then 0 else if t.op = 4 then -1 else if t.op = 5 then E.load t.arg else if t.op = 12 then E.near port t.arg else E.fact port t.op
def evalE (E : Env) : Int → Ex → Int
  | port, .leaf t => leafE E port t
  | port, .un t a => if aggregate t.op then foldF t.op ((List.range E.deg).map fun (k : Nat) => evalE E (k : Int) a) else unaryF t.op (evalE E port a)
  | port, .bin t a b => binaryF t.op (evalE E port a) (evalE E port b)
  | port, .tri _ a b d => if evalE E port a ≠ 0 then evalE E port b else evalE E port d
def portL (L : List (Nat × List Int)) : Int := match L with | [] => -1 | f :: _ => (f.2.length : Int)
def CodeRuns (E : Env) (x : Ex) : Prop := ∀ (l : List Term) (f : Nat) (r : List Term) (L : List (Nat × List Int)) (st : List Int), l.drop f = x.code f ++ r →
  ∃ n, 1 ≤ n ∧ RunM E l ⟨f, st, L⟩ n ⟨f + x.size, evalE E (portL L) x :: st, L⟩
theorem drop_code {l r c : List Term} {f n : Nat} (h : l.drop f = c ++ r) (hn : c.length = n) : l.drop (f + n) = r := by
  rw [← List.drop_drop, h, ← hn, List.drop_left]
theorem step_leaf {E : Env} {l : List Term} {f : Nat} {st : List Int} {L : List (Nat × List Int)} {t : Term} (h : insAt l f = leafI t) : stepM E l ⟨f, st, L⟩ = ⟨f + 1, leafE E (portL L) t :: st, L⟩ := by
  unfold stepM
  dsimp only
  rw [h]
  unfold leafI leafE
  by_cases h1 : t.op = 1
  · simp [h1]
  by_cases h2 : t.op = 2
  · simp [h2]
  by_cases h3 : t.op = 3
  · simp [h3]
  by_cases h4 : t.op = 4
  · simp [h4]
  by_cases h5 : t.op = 5
  · simp [h5]
  by_cases h6 : t.op = 12
  · simp [h6]; rfl
  · simp [h1, h2, h3, h4, h5, h6]; rfl
theorem range_succ_map (E : Env) (a : Ex) (k : Nat) : ((List.range (k + 1)).map fun (j : Nat) => evalE E (j : Int) a) = ((List.range k).map fun (j : Nat) => evalE E (j : Int) a) ++ [evalE E (k : Int) a] := by
  rw [List.range_succ, List.map_append]; rfl
theorem code_run (E : Env) (x : Ex) : CodeRuns E x := by
  induction x with
  | leaf t =>
    intro l f r L st h
    obtain ⟨h1, _, h3⟩ := ins_of_drop h
    exact ⟨1, Nat.le_refl _, .one h3 (step_leaf h1)⟩
  | un t a ih =>
    intro l f r L st h
    simp only [Ex.code, Ex.size, evalE] at h ⊢
    by_cases hag : aggregate t.op = true
    · rw [if_pos hag] at h ⊢
      rw [if_pos hag]
      simp only [List.append_assoc, List.cons_append, List.nil_append] at h
      obtain ⟨h1, h2, h3⟩ := ins_of_drop h
      have h4 := drop_code h2 (a.code_length (f + 1))
      obtain ⟨h5, _, h6⟩ := ins_of_drop h4
      have s1 : stepM E l ⟨f, st, L⟩ = if E.deg = 0 then ⟨f + 1 + a.size + 1, foldF t.op [] :: st, L⟩ else ⟨f + 1, st, (f, []) :: L⟩ := by
        unfold stepM
        dsimp only
        rw [h1]
        simp only [Int.toNat_natCast, h5]
        rfl
      by_cases hd : E.deg = 0
      · rw [if_pos hd] at s1
        refine ⟨1, Nat.le_refl _, .one h3 ?_⟩
        rw [s1, hd, show f + (a.size + 2) = f + 1 + a.size + 1 by omega]; rfl
      · rw [if_neg hd] at s1
        have loop : ∀ j k, k + j + 1 = E.deg → ∃ n, RunM E l ⟨f + 1, st, (f, (List.range k).map fun (i : Nat) => evalE E (i : Int) a) :: L⟩ n ⟨f + 1 + a.size + 1, foldF t.op ((List.range E.deg).map fun (i : Nat) => evalE E (i : Int) a) :: st, L⟩ := by
          intro j
          induction j with
          | zero =>
            intro k hk
            obtain ⟨n, _, hn⟩ := ih l (f + 1) _ ((f, (List.range k).map fun (i : Nat) => evalE E (i : Int) a) :: L) st h2
            refine ⟨n + 1, hn.trans (.one h6 ?_)⟩
            unfold stepM
            dsimp only
            rw [h5]
            simp only [nextM, portL, top1, List.length_map, List.length_range]
            rw [if_neg (show ¬ k + 1 < E.deg by omega), ← hk]
            simp only [range_succ_map, Nat.add_zero]
            rfl
          | succ j ihj =>
            intro k hk
            obtain ⟨n, _, hn⟩ := ih l (f + 1) _ ((f, (List.range k).map fun (i : Nat) => evalE E (i : Int) a) :: L) st h2
            obtain ⟨m, hm⟩ := ihj (k + 1) (by omega)
            refine ⟨n + 1 + m, (hn.trans (.one h6 ?_)).trans hm⟩
            unfold stepM
            dsimp only
            rw [h5]
            simp only [nextM, portL, top1, List.length_map, List.length_range]
            rw [if_pos (show k + 1 < E.deg by omega)]
            simp only [range_succ_map]
            rfl
        obtain ⟨n, hn⟩ := loop (E.deg - 1) 0 (by omega)
        refine ⟨1 + n, by omega, (RunM.one h3 s1).trans ?_⟩
        rw [show f + (a.size + 2) = f + 1 + a.size + 1 by omega]
        exact hn
    · rw [if_neg hag] at h ⊢
      rw [if_neg hag]
      simp only [List.append_assoc, List.cons_append, List.nil_append] at h
      have h4 := drop_code h (a.code_length f)
      obtain ⟨h5, _, h6⟩ := ins_of_drop h4
      obtain ⟨n, hn1, hn⟩ := ih l f _ L st h
      refine ⟨n + 1, by omega, hn.trans (.one h6 ?_)⟩
      unfold stepM
      dsimp only
      rw [h5]
      rfl
  | bin t a b iha ihb =>
    intro l f r L st h
    simp only [Ex.code, Ex.size, evalE] at h ⊢
    simp only [List.append_assoc, List.cons_append, List.nil_append] at h
    have h2 := drop_code h (a.code_length f)
    have h4 := drop_code h2 (b.code_length (f + a.size))
    obtain ⟨h5, _, h6⟩ := ins_of_drop h4
    obtain ⟨n, hn1, hn⟩ := iha l f _ L st h
    obtain ⟨m, hm1, hm⟩ := ihb l (f + a.size) _ L (evalE E (portL L) a :: st) h2
    refine ⟨n + m + 1, by omega, (hn.trans hm).trans (.one h6 ?_)⟩
    unfold stepM
    dsimp only
    rw [h5, show f + (a.size + b.size + 1) = f + a.size + b.size + 1 by omega]
    rfl
  | tri t a b c iha ihb ihc =>
    intro l f r L st h
    simp only [Ex.code, Ex.size, evalE] at h ⊢
    simp only [List.append_assoc, List.cons_append, List.nil_append] at h
    have h2 := drop_code h (a.code_length f)
    obtain ⟨i1, i2, i3⟩ := ins_of_drop h2
    have h4 := drop_code i2 (b.code_length (f + a.size + 1))
    obtain ⟨j1, j2, j3⟩ := ins_of_drop h4
    obtain ⟨n, hn1, hn⟩ := iha l f _ L st h
    by_cases h0 : evalE E (portL L) a = 0
    · rw [if_neg (by simpa using h0)]
      obtain ⟨m, hm1, hm⟩ := ihc l (f + a.size + 1 + b.size + 1) _ L st j2
      refine ⟨n + 1 + m, by omega, (hn.trans (.one i3 ?_)).trans (show RunM E l ⟨f + a.size + 1 + b.size + 1, st, L⟩ m _ from ?_)⟩
      · unfold stepM
        dsimp only
        rw [i1]
        simp [top1, h0] <;> omega
      · rw [show f + (a.size + b.size + c.size + 2) = f + a.size + 1 + b.size + 1 + c.size by omega]
        exact hm
    · rw [if_pos h0]
      obtain ⟨m, hm1, hm⟩ := ihb l (f + a.size + 1) _ L st i2
      refine ⟨n + 1 + m + 1, by omega, ((hn.trans (.one i3 (s' := ⟨f + a.size + 1, st, L⟩) ?_)).trans hm).trans (.one j3 ?_)⟩
      · unfold stepM
        dsimp only
        rw [i1]
        simp [top1, h0]
      · unfold stepM
        dsimp only
        rw [j1]
        simp only [Int.toNat_natCast]
        rw [show f + (a.size + b.size + c.size + 2) = f + a.size + 1 + b.size + 1 + c.size by omega]
        rfl

end Go.Proofs.YtaifafljakojnaaGreat

/- What Verify needs to accept a list; straight code. -/
namespace Go.Proofs.YtaifafljakojnaaGreat

theorem gifts_fwd {l : List Term} {v : Int} {H : List Int} {T : Nat → List Tr} (hv : Ver l v H T) {i : Nat} (hi : i < l.length) : ∀ g ∈ giftsF (insAt l i) i (ig H i), (i : Int) < g.op ∧ g.op ≤ l.length := by
  obtain ⟨_, _, _, _, h5, _, h7⟩ := checks_parts (hv.checks i hi)
  intro g hg
  unfold giftsF at hg
  split at hg
  · simp at hg; subst hg; dsimp only; omega
  split at hg
  · simp at hg; subst hg; dsimp only; omega
  split at hg
  · rename_i e7
    obtain ⟨j1, j2, j3, _⟩ := same_jump hv hi (.inl e7)
    simp at hg
    rcases hg with rfl | rfl <;> dsimp only <;> omega
  split at hg
  · rename_i e8
    obtain ⟨j1, j2, j3, _⟩ := same_jump hv hi (.inr e8)
    simp at hg; subst hg; dsimp only; omega
  split at hg
  · rename_i e9
    have := each_parts h5 e9
    simp at hg
    rcases hg with rfl | rfl <;> dsimp only <;> omega
  · simp at hg; subst hg; dsimp only; omega
theorem giveF_ok {H : List Int} : ∀ {gs : List Term} {hs : List Int}, hs.length = H.length → (∀ j : Nat, j < H.length → ig hs (j : Int) = -1 ∨ ig hs (j : Int) = ig H (j : Int)) → (∀ g ∈ gs, 0 ≤ g.op ∧ g.op < H.length ∧ ig H g.op = g.arg) →
    ∃ hs', giveF hs gs = some hs' ∧ hs'.length = H.length ∧ (∀ j : Nat, j < H.length → ig hs' (j : Int) = -1 ∨ ig hs' (j : Int) = ig H (j : Int)) ∧ (∀ j : Nat, j < H.length → ig hs (j : Int) = ig H (j : Int) → ig hs' (j : Int) = ig H (j : Int)) ∧ ∀ g ∈ gs, ig hs' g.op = ig H g.op := by
  intro gs
  induction gs with
  | nil => intro hs hl ha _; exact ⟨hs, rfl, hl, ha, fun _ _ h => h, fun g hg => by cases hg⟩
  | cons a gs ih =>
    intro hs hl ha hg
    obtain ⟨g1, g2, g3⟩ := hg a (List.mem_cons_self ..)
    obtain ⟨q, hq⟩ := Int.eq_ofNat_of_zero_le g1
    have hql : q < H.length := by omega
    rw [hq] at g3
    have hset : ∀ j : Nat, ig (hs.set q a.arg) (j : Int) = if j = q then a.arg else ig hs (j : Int) := fun j => ig_set (by omega) j
    have hself : ig (hs.set q a.arg) (q : Int) = ig H (q : Int) := by rw [hset, if_pos rfl, g3]
    obtain ⟨hs', e1, e2, e3, e4, e5⟩ := ih (hs := hs.set q a.arg) (by rw [List.length_set]; exact hl) (fun j hj => by
      rw [hset]
      by_cases hjq : j = q
      · subst hjq; rw [if_pos rfl]; exact .inr g3.symm
      · rw [if_neg hjq]; exact ha j hj) (fun g h => hg g (List.mem_cons_of_mem _ h))
    refine ⟨hs', ?_, e2, e3, fun j hj h => ?_, fun g h => ?_⟩
    · unfold giveF
      rw [hq, Int.toNat_natCast, if_neg (by have := ha q hql; omega)]
      exact e1
    · refine e4 j hj ?_
      rw [hset]
      by_cases hjq : j = q
      · subst hjq; rw [if_pos rfl, g3]
      · rw [if_neg hjq]; exact h
    · rcases List.mem_cons.1 h with rfl | h
      · rw [hq]; exact e4 q hql hself
      · exact e5 g h
theorem mostF_ok : ∀ {gs : List Term} {m : Int}, (∀ g ∈ gs, g.arg ≤ 64) → ∃ m', mostF m gs = some m' := by
  intro gs
  induction gs with
  | nil => intro m _; exact ⟨m, rfl⟩
  | cons a gs ih =>
    intro m h
    unfold mostF
    rw [if_neg (by have := h a (List.mem_cons_self ..); omega)]
    exact ih fun g hg => h g (List.mem_cons_of_mem _ hg)
theorem ver_accept {l : List Term} {v : Int} {H : List Int} {T : Nat → List Tr} (hv : Ver l v H T) : ∀ (n i : Nat) (hs : List Int) (m : Int), i + n = l.length → hs.length = l.length + 1 →
    (∀ j : Nat, j ≤ l.length → ig hs (j : Int) = -1 ∨ ig hs (j : Int) = ig H (j : Int)) → (∀ j : Nat, j ≤ l.length → (j = 0 ∨ ∃ k : Nat, k < i ∧ ∃ g ∈ giftsF (insAt l k) k (ig H k), g.op = (j : Int)) → ig hs (j : Int) = ig H (j : Int)) → (verGo l v n i hs (T i) m).2.2 = 0 := by
  intro n
  induction n with
  | zero =>
    intro i hs m hi hl ha hg
    unfold verGo
    have h0 : ig hs (l.length : Int) = ig H (l.length : Int) := by
      refine hg l.length (Nat.le_refl _) ?_
      by_cases h : l.length = 0
      · exact .inl h
      · obtain ⟨k, h1, h2⟩ := hv.given l.length (Nat.le_refl _) h
        exact .inr ⟨k, by omega, h2⟩
    rw [h0, hv.last]
    simp
  | succ n ih =>
    intro i hs m hi hl ha hg
    have hil : i < l.length := by omega
    have hh : ig hs (i : Int) = ig H (i : Int) := by
      refine hg i (by omega) ?_
      by_cases h : i = 0
      · exact .inl h
      · obtain ⟨k, h1, g, h2, h3⟩ := hv.given i (by omega) h
        have := (gifts_fwd hv h1 g h2).1
        exact .inr ⟨k, by omega, g, h2, h3⟩
    have hlen := hv.len
    obtain ⟨hs', e1, e2, e3, e4, e5⟩ := giveF_ok (H := H) (gs := giftsF (insAt l i) i (ig H i)) (hs := hs) (by omega) (fun j hj => ha j (by omega)) (fun g h => by
      have h1 := gifts_fwd hv hil g h
      exact ⟨by omega, by omega, (hv.gifts i hil g h).1⟩)
    obtain ⟨m', hm⟩ := mostF_ok (gs := giftsF (insAt l i) i (ig H i)) (m := m) (fun g h => (hv.gifts i hil g h).2)
    unfold verGo stepP giveR
    rw [hh, hv.checks i hil, e1, hm, ← hv.next i hil]
    refine ih (i + 1) hs' m' (by omega) (by omega) (fun j hj => e3 j (by omega)) (fun j hj h => ?_)
    rcases h with h | ⟨k, hk, g, h1, h2⟩
    · exact e4 j (by omega) (hg j hj (.inl h))
    · by_cases hki : k = i
      · subst hki
        have := e5 g h1
        rwa [h2] at this
      · exact e4 j (by omega) (hg j hj (.inr ⟨k, by omega, g, h1, h2⟩))
theorem verify_accept {l : List Term} {v : Int} {H : List Int} {T : Nat → List Tr} (hv : Ver l (max v 0) H T) (h0 : 0 < l.length) (h1 : l.length ≤ 1024) : (verifyF l v).2.2 = 0 := by
  unfold verifyF
  rw [if_neg (by omega)]
  have := ver_accept hv l.length 0 (0 :: List.replicate l.length (-1)) 0 (by omega) (by simp) (fun j hj => ?_) (fun j hj h => ?_)
  · rw [hv.start] at this; exact this
  · cases j with
    | zero => right; rw [show ((0 : Nat) : Int) = 0 from rfl, hv.zero]; rfl
    | succ j =>
      left
      unfold ig
      rw [Int.toNat_natCast, List.getD_cons_succ, List.getD_eq_getElem?_getD, List.getElem?_replicate, if_pos (by omega)]
      rfl
  · rcases h with h | ⟨k, hk, _⟩
    · subst h; rw [show ((0 : Nat) : Int) = 0 from rfl, hv.zero]; rfl
    · omega

/-- Code without loops and jumps takes one step for each instruction. -/
theorem straight_go {E : Env} {l : List Term} (h : ∀ i : Nat, i < l.length → 1 ≤ (insAt l i).op ∧ (insAt l i).op ≤ 6) : ∀ (n : Nat) (s : MS), s.place ≤ l.length → l.length ≤ s.place + n → (goM E l n s).2 = l.length - s.place := by
  intro n
  induction n with
  | zero => intro s h1 h2; show 0 = _; omega
  | succ n ih =>
    intro s h1 h2
    unfold goM
    by_cases hp : s.place < l.length
    · rw [if_pos hp]
      have hop := h s.place hp
      have hpl : (stepM E l s).place = s.place + 1 := by
        unfold stepM
        dsimp only
        split
        · rfl
        split
        · rfl
        split
        · rfl
        split
        · rfl
        split
        · rfl
        split
        · rfl
        · omega
      have := ih (stepM E l s) (by omega) (by omega)
      dsimp only
      omega
    · rw [if_neg hp]
      dsimp only
      omega
theorem straight_ops {l : List Term} {v : Int} {H : List Int} {T : Nat → List Tr} (hv : Ver l v H T) (h : ∀ i : Nat, i < l.length → (insAt l i).op ≠ 9 ∧ (insAt l i).op ≠ 7 ∧ (insAt l i).op ≠ 8) : ∀ i : Nat, i < l.length → 1 ≤ (insAt l i).op ∧ (insAt l i).op ≤ 6 := by
  intro i hi
  obtain ⟨c1, c2, c3, c4, c5, c6, _⟩ := checks_parts (hv.checks i hi)
  obtain ⟨k1, k2, _⟩ := known_parts c2
  have := h i hi
  refine ⟨k1, ?_⟩
  rcases Int.lt_or_le (insAt l i).op 7 with h7 | h7
  · omega
  · exfalso
    have h10 : (insAt l i).op = 10 := by omega
    obtain ⟨n1, _⟩ := next_parts c6 h10
    rcases nil_or_concat' (T i) with e | ⟨D, t, e⟩
    · rw [e] at n1; simp [innerF] at n1; omega
    · obtain ⟨e0, nx, b1, b2, b3, b4, b5, b6, b7, _⟩ := ver_nested hv i (by omega) D t [] e
      exact (h e0 (by omega)).1 (by rw [b6])

end Go.Proofs.YtaifafljakojnaaGreat

