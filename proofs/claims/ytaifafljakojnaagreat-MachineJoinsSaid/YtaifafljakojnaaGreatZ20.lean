/- Merged of: PEm Mr W13a P13h (see NOTES.md). -/
import Derived.Test.YtaifafljakojnaaGreatZ15
import Derived.Test.YtaifafljakojnaaGreatZ19
import Derived.Test.YtaifafljakojnaaGreatZ03
import Derived.Test.YtaifafljakojnaaGreatZ18
set_option linter.unusedSimpArgs false
set_option linter.unnecessarySimpa false
set_option linter.unusedVariables false

/- The machine at a node of a configuration: what its runs return. -/
namespace Go.Proofs.YtaifafljakojnaaGreat

def envF (g : Graph) (c : Config) (v : Nat) : Env :=
  ⟨(g.ports.getD v []).length, fun a => (c.getD v []).getD a.toNat 0, fun k a => (c.getD (linkF g v k).to.toNat []).getD a.toNat 0, fun k op => factF g op v k⟩
theorem evalE_eq (g : Graph) (c : Config) (v : Nat) (x : Ex) : ∀ port : Int, evalE (envF g c v) port x = evalF g c v port x := by
  induction x with
  | leaf t => intro port; rfl
  | un t a ih =>
    intro port
    simp only [evalE, evalF]
    rw [ih]
    congr 1
    congr 1
    exact List.map_congr_left fun k _ => ih _
  | bin t a b iha ihb => intro port; simp only [evalE, evalF]; rw [iha, ihb]
  | tri t a b d iha ihb ihd => intro port; simp only [evalE, evalF]; rw [iha, ihb, ihd]
theorem env_deg {p : Prg} {g : Graph} {c : Config} {v : Nat} (h : SOK p g c v) : (envF g c v).deg < 24 := by
  show (g.ports.getD v []).length < 24
  have h1 := linksOK_len h.node (h.gok.links v h.node)
  have h2 := h.gok.le
  have h3 := h.gok.ids
  rw [getD_eq h.node]
  omega
theorem fold_num (op : Int) (l : List Int) (hn : ∀ x ∈ l, Num x) (hl : l.length < 24) : Num (foldF op l) := foldF_num hn (by omega)
theorem env_ok {p : Prg} {g : Graph} {c : Config} {v : Nat} (h : SOK p g c v) : EnvOK (envF g c v) (p.vars.length : Int) := by
  have hport : ∀ k : Int, 0 ≤ k → k < ((envF g c v).deg : Int) → ∃ q : Nat, k = (q : Int) ∧ q < (g.ports.getD v []).length := fun k h1 h2 => by
    obtain ⟨q, hq⟩ := Int.eq_ofNat_of_zero_le h1
    have : k < ((g.ports.getD v []).length : Int) := h2
    exact ⟨q, hq, by omega⟩
  refine ⟨fun a h1 h2 => ?_, fun k a h1 h2 h3 h4 => ?_, fun k op h1 h2 h3 h4 => ?_⟩
  · obtain ⟨q, rfl⟩ := Int.eq_ofNat_of_zero_le h1
    show Num ((c.getD v []).getD ((q : Int).toNat) 0)
    rw [Int.toNat_natCast]
    exact h.small h.node (by omega)
  · obtain ⟨q, rfl⟩ := Int.eq_ofNat_of_zero_le h3
    obtain ⟨k', rfl, hk⟩ := hport k h1 h2
    show Num ((c.getD (linkF g v (k' : Int)).to.toNat []).getD ((q : Int).toNat) 0)
    rw [getD_eq h.node] at hk
    obtain ⟨e, t, ht, htl, _⟩ := link_at h.gok h.node hk
    rw [e, ht, Int.toNat_natCast, Int.toNat_natCast]
    exact h.small htl (by omega)
  · refine fact_num (b := decide (11 ≤ op)) h.gok h.node ⟨h1, h2, h3⟩ (fun hn => ?_) (fun hb => ?_)
    · unfold nearOp at hn
      rw [decide_eq_true_eq] at hn ⊢
      exact hn.1
    · obtain ⟨a1, a2⟩ := h4 (of_decide_eq_true hb)
      exact hport k a1 a2

theorem run_zero {E : Env} {l : List Term} {s s' : MS} {n : Nat} (h : RunM E l s n s') (hn : n = 0) : s = s' := by
  cases h with
  | here => rfl
  | step => omega
/-- How much fuel a run has. -/
def fuelF (g : Graph) (c : Config) (v : Nat) (l : List Term) : Nat := l.length * (max (envF g c v).deg 1 * max (envF g c v).deg 1)
def execF (g : Graph) (c : Config) (v : Nat) (l : List Term) : MS × Nat := goM (envF g c v) l (fuelF g c v l) startM
/-- A list that Verify accepts: its run ends behind the list, with one number. -/
theorem exec_ok {p : Prg} {g : Graph} {c : Config} {v : Nat} (h : SOK p g c v) {l : List Term} {H : List Int} {T : Nat → List Tr} (hv : Ver l (p.vars.length : Int) H T) (h0 : 0 < l.length) :
    ∃ (x : Int) (n : Nat), execF g c v l = (⟨l.length, [x], []⟩, n) ∧ Num x ∧ 1 ≤ n ∧ n ≤ fuelF g c v l ∧ RunM (envF g c v) l startM n ⟨l.length, [x], []⟩ := by
  have hp := start_pot (E := envF g c v) hv
  obtain ⟨i1, i2, i3⟩ := goM_ends hv (env_ok h) fold_num (env_deg h) (fuelF g c v l) startM (start_minv hv) hp
  obtain ⟨x, hx, hn⟩ := end_state hv i1 i2
  have hr := run_goM (E := envF g c v) (l := l) (fuelF g c v l) startM
  rw [hx] at hr
  refine ⟨x, _, by show goM _ _ _ _ = _; rw [← hx], hn, ?_, Nat.le_trans i3 hp, hr⟩
  rcases Nat.eq_zero_or_pos (goM (envF g c v) l (fuelF g c v l) startM).2 with e | e
  · exfalso
    have h3 := run_zero hr e
    have h4 : startM.place = l.length := by rw [h3]
    have : 0 = l.length := h4
    omega
  · exact e
theorem ver_max {n : Nat} {l : List Term} {H : List Int} {T : Nat → List Tr} (h : Ver l (max (n : Int) 0) H T) : Ver l (n : Int) H T := by
  rwa [show max (n : Int) 0 = n by omega] at h
/-- What machine.Run returns. -/
def runF (p : Prg) (g : Graph) (c : Config) (v : Int) (l : List Term) : Int × Int × Int :=
  if memF p g c ≠ 0 then (0, 0, memF p g c) else if ¬ (0 ≤ v ∧ v ≤ (c.length : Int) - 1) then (0, 0, 2) else if (verifyF l p.vars.length).2.2 ≠ 0 then (0, 0, 7)
  else ((execF g c v.toNat l).1.stack.headD 0, ((execF g c v.toNat l).2 : Int), 0)

theorem runF_node {p : Prg} {g : Graph} {c : Config} {q : Nat} {l : List Term} (hm : memF p g c = 0) (hq : q < c.length) : runF p g c (q : Int) l = if (verifyF l p.vars.length).2.2 ≠ 0 then (0, 0, 7) else ((execF g c q l).1.stack.headD 0, ((execF g c q l).2 : Int), 0) := by
  unfold runF
  rw [if_neg (by simpa using hm), if_neg (by omega), Int.toNat_natCast]
/-- A verified list at a node: a number, in at least one step, and at most as many as its length times the square of the degree (1 at least). -/
theorem runF_ok {p : Prg} {g : Graph} {c : Config} {q : Nat} {l : List Term} (hm : memF p g c = 0) (hq : q < c.length) (hl : (verifyF l p.vars.length).2.2 = 0) :
    ∃ (x : Int) (n : Nat), runF p g c (q : Int) l = (x, (n : Int), 0) ∧ Num x ∧ 1 ≤ n ∧ n ≤ fuelF g c q l ∧ RunM (envF g c q) l startM n ⟨l.length, [x], []⟩ := by
  obtain ⟨h0, h1, H, T, hv, _⟩ := verify_ver hl
  obtain ⟨x, n, e, hx, hn, hb, hr⟩ := exec_ok (mem_sok hm hq) (ver_max hv) h0
  exact ⟨x, n, by rw [runF_node hm hq, if_neg (by omega), e]; rfl, hx, hn, hb, hr⟩
/-- A run that ends behind a verified list is the run. -/
theorem runF_is {p : Prg} {g : Graph} {c : Config} {q : Nat} {l : List Term} (hm : memF p g c = 0) (hq : q < c.length) (hl : (verifyF l p.vars.length).2.2 = 0) {x : Int} {n : Nat} (hr : RunM (envF g c q) l startM n ⟨l.length, [x], []⟩) : runF p g c (q : Int) l = (x, (n : Int), 0) := by
  obtain ⟨y, m, e, _, _, _, hr2⟩ := runF_ok hm hq hl
  have h1 := goM_run hr rfl (n + m) (by omega)
  have h2 := goM_run hr2 rfl (n + m) (by omega)
  rw [h1] at h2
  simp only [Prod.mk.injEq, MS.mk.injEq, List.cons.injEq, and_true, true_and] at h2
  rw [e, h2.1, h2.2]
/-- MachineJoins, plain. -/
theorem runF_join {p : Prg} {g : Graph} {c : Config} {q : Nat} {a b : List Term} {op : Int} (hm : memF p g c = 0) (hq : q < c.length) (ha : (verifyF a p.vars.length).2.2 = 0) (hb : (verifyF b p.vars.length).2.2 = 0) (h64 : (verifyF b p.vars.length).1 + 1 ≤ 64) (hlen : a.length + b.length ≤ 300) (hop : 30 ≤ op ∧ op ≤ 42) :
    ∃ (x y : Int) (n m : Nat), runF p g c (q : Int) a = (x, (n : Int), 0) ∧ runF p g c (q : Int) b = (y, (m : Int), 0) ∧ runF p g c (q : Int) (joinL a b op) = (binaryF op x y, ((n + m + 1 : Nat) : Int), 0) ∧ Num x ∧ Num y := by
  obtain ⟨x, n, e1, hx, _, _, r1⟩ := runF_ok hm hq ha
  obtain ⟨y, m, e2, hy, _, _, r2⟩ := runF_ok hm hq hb
  obtain ⟨_, _, Ha, Ta, va, _⟩ := verify_ver ha
  obtain ⟨_, _, Hb, Tb, vb, gb⟩ := verify_ver hb
  have hs := mem_sok hm hq
  have hj := join_ver (ver_max va) (ver_max vb) (by omega) (fun i hi gg hg => by have := gb i hi gg hg; omega) hop
  have hacc : (verifyF (joinL a b op) p.vars.length).2.2 = 0 := by
    refine verify_accept (H := joinH a Ha Hb) (T := joinT a b Ta Tb) ?_ (by rw [joinL_length]; omega) (by rw [joinL_length]; omega)
    rw [show max (p.vars.length : Int) 0 = p.vars.length by omega]
    exact hj
  exact ⟨x, y, n, m, e1, e2, runF_is hm hq hacc (run_join (ver_max va) (ver_max vb) (env_ok hs) fold_num (env_deg hs) op r1 r2), hx, hy⟩
/-- MachineAgreesWithEval, plain: the code of an expression. -/
theorem runF_code {p : Prg} {g : Graph} {c : Config} {q : Nat} {x : Ex} (hm : memF p g c = 0) (hq : q < c.length) (hl : (verifyF (x.code 0) p.vars.length).2.2 = 0) : ∃ n : Nat, 1 ≤ n ∧ runF p g c (q : Int) (x.code 0) = (evalF g c q (-1) x, (n : Int), 0) := by
  obtain ⟨n, hn, hr⟩ := code_run (envF g c q) x (x.code 0) 0 [] [] [] (by simp)
  refine ⟨n, hn, runF_is hm hq hl ?_⟩
  rw [evalE_eq, Nat.zero_add] at hr
  rw [x.code_length]
  exact hr
/-- Straight code. -/
theorem runF_straight {p : Prg} {g : Graph} {c : Config} {q : Nat} {l : List Term} (hm : memF p g c = 0) (hq : q < c.length) (hl : (verifyF l p.vars.length).2.2 = 0) (hs : ∀ i : Nat, i < l.length → (insAt l i).op ≠ 9 ∧ (insAt l i).op ≠ 7 ∧ (insAt l i).op ≠ 8) : (runF p g c (q : Int) l).2.1 = l.length := by
  obtain ⟨_, _, H, T, hv, _⟩ := verify_ver hl
  obtain ⟨x, n, e, _, _, hb, hr⟩ := runF_ok hm hq hl
  have h1 := goM_run hr rfl (n + l.length) (by omega)
  have h2 := straight_go (E := envF g c q) (straight_ops (ver_max hv) hs) (n + l.length) startM (Nat.zero_le _) (by show l.length ≤ 0 + (n + l.length); omega)
  rw [h1] at h2
  have h3 : n = l.length - 0 := h2
  rw [e]
  show (n : Int) = _
  omega

end Go.Proofs.YtaifafljakojnaaGreat

/- Maps of the call's own whose elements are functions of the program. -/
namespace Go.Proofs.YtaifafljakojnaaGreat
open Go.RowKit Go.Maps

/-- A function of the program reads as its number; no function as -1. -/
def fnElem (v : Value) : Option (DataW Unit × List MemPlace) :=
  match v with
  | .nilFunc => some (.lit (.int .i64 (-1)), [])
  | .func (.func f) a c => if a = #[] ∧ c = #[] then some (.lit (.int .i64 ((f : Nat) : Int)), []) else none
  | _ => none
theorem fnElem_func (f : FuncId) : fnElem (.func (.func f) #[] #[]) = some (.lit (.int .i64 ((f : Nat) : Int)), []) := by simp [fnElem]
theorem fnElem_inv {v : Value} {f : Nat} {ps : List MemPlace} (h : fnElem v = some (.lit (.int .i64 (f : Int)), ps)) : v = .func (.func f) #[] #[] := by
  unfold fnElem at h
  split at h
  · exfalso; simp at h <;> omega
  · rename_i f' a c
    split at h
    · rename_i hac
      obtain ⟨rfl, rfl⟩ := hac
      simp at h
      have e : f' = f := Int.ofNat_inj.1 h.1
      rw [e]
    · cases h
  · cases h
/-- The map in block b holds these functions at these keys. -/
def FnR (P : Program) (k : TypeId) (w : World) (b n : Nat) (fs : List (Lit × Nat)) : Prop :=
  ∃ D : DataW Unit, w.ownsMap P k fnElem b n D ∧ IsMap D ∧ ∀ kl f, (kl, f) ∈ fs → D.atKey kl (.lit (.int .i64 (-1))) = .lit (.int .i64 (f : Int))
theorem FnR.made (P : Program) (k : TypeId) (w : World) : FnR P k (w.alloc (.map #[] 0)) w.heap.size 0 [] :=
  ⟨.map [], World.ownsMap_made w P k _, isMap_empty, fun kl f h => by cases h⟩
theorem FnR.kept {P : Program} {k : TypeId} {w w' : World} {b n : Nat} {fs : List (Lit × Nat)} {row : Option Nat} (h : FnR P k w b n fs) (hg : w.grownBy w' row) (hne : some b ≠ row) : FnR P k w' b n fs := by
  obtain ⟨D, h1, h2, h3⟩ := h
  exact ⟨D, h1.kept hg hne, h2, h3⟩
theorem FnR.keep {P : Program} {k : TypeId} {w w' : World} {b n : Nat} {fs : List (Lit × Nat)} (h : FnR P k w b n fs) (hb : Bel w w') : FnR P k w' b n fs := h.kept (hb.grownBy none) (by simp)
theorem FnR.look {P : Program} {k e t : TypeId} {w : World} {b n : Nat} {fs : List (Lit × Nat)} (h : FnR P k w b n fs) (K : Keyed P k) (ht : P.underlying t = some (.map k e)) (hz : (zeroValue e).run P w = .ok .nilFunc w)
    {key : Value} {kl : Lit} (hkey : keyOf P k key = some kl) {f : Nat} (hf : (kl, f) ∈ fs) : (Instr.lookup t (.map (some b)) key false).run P w = .ok (.func (.func f) #[] #[]) w := by
  obtain ⟨D, h1, _, h3⟩ := h
  obtain ⟨v, ps, hrun, hv⟩ := h1.lookup K ht hz (zd := .lit (.int .i64 (-1))) (zp := []) rfl hkey
  rw [h3 kl f hf] at hv
  rw [hrun, fnElem_inv hv]
theorem wpList_putFn {P : Program} (w : World) {ops : Array Oper} {rest : List Oper} {o : Oper} {a : Act} {Q : Exit → Act → World → Prop}
    (hg : o.guard = none) (m x v : Operand) (t : TypeId) (hop : o.op = Op.mapUpdate t m x v)
    (k e : TypeId) (K : Keyed P k) (ht : P.underlying t = some (.map k e)) (b n : Nat) (fs : List (Lit × Nat)) (f : Nat)
    (hm : a.eval m = .map (some b)) (hown : FnR P k w b n fs) (hn : n < maxLen) (key : Value) (kl : Lit) (hx : a.eval x = key) (hv : a.eval v = .func (.func f) #[] #[]) (hkey : keyOf P k key = some kl) (hkl : WideAt.IsKeyLit kl) (hnew : ∀ p ∈ fs, p.1 ≠ kl)
    (hK : ∀ w', FnR P k w' b (n + 1) ((kl, f) :: fs) → w.grownBy w' (some b) → wpList P ops Q rest (a.put o.dst undef) w') :
    wpList P ops Q (o :: rest) a w := by
  obtain ⟨D, h1, h2, h3⟩ := hown
  refine wpList_mapUpdate_own w hg m x v t hop k e K ht _ b n D hm h1 hn key (.func (.func f) #[] #[]) kl hx hv hkey _ [] (fnElem_func f) ?_
  intro w' h4 h5
  refine hK w' ⟨_, h4, h2.put _ _, fun kl' f' hmem => ?_⟩ h5
  rcases List.mem_cons.1 hmem with he | he
  · injection he with e1 e2
    subst e1; subst e2
    rw [atKey_put_same h2 hkl]
  · rw [atKey_put_other (hnew _ he), h3 kl' f' he]

end Go.Proofs.YtaifafljakojnaaGreat

/- The rows of a machine of layer 13: the stack and the open loops with their values, in pairwise different blocks. -/
namespace Go.Proofs.YtaifafljakojnaaGreat
open Go.RowKit

/-- A slice of numbers of the call's own: its address and its capacity. -/
abbrev Hd := Option Addr × Nat
def Hd.val (h : Hd) (n : Nat) : Value := .slice h.1 n h.2
def Hd.blk (h : Hd) : Option Nat := h.1.map (·.block)
theorem Hd.own (h : Hd) (n : Nat) : (h.val n).ownBlock = h.blk := by
  obtain ⟨A, c⟩ := h
  cases A <;> rfl
def OwnM (w : World) (base : Nat) (h : Hd) (l : List Int) : Prop := w.ownsRow base 3 1 (h.val l.length) l.length (l.map (Value.int .i64))
def Ap (a b : Hd) : Prop := a.blk = none ∨ a.blk ≠ b.blk
theorem Ap.symm {a b : Hd} (h : Ap a b) : Ap b a := by
  rcases h with h | h
  · by_cases e : b.blk = none
    · exact .inl e
    · exact .inr (by rw [h]; exact e)
  · exact .inr fun e => h e.symm
theorem Ap.nil (a : Hd) (c : Nat) : Ap a (none, c) := (show Ap (none, c) a from .inl rfl).symm
theorem own_grv {w w' : World} {base : Nat} {e : TypeId} {size n : Nat} {v : Value} {row : Option Nat} {xs : List Value} (h : w.ownsRow base e size v n xs) (hf : Gr row w w') (hne : v.ownBlock = none ∨ v.ownBlock ≠ row) : w'.ownsRow base e size v n xs := by
  obtain ⟨A, c, rfl⟩ := own_slice h
  rcases h.2 with ⟨hv, h0⟩ | ⟨g, cap, cur, hv, _⟩
  · rw [hv]; subst h0; exact ⟨h.1, .inl ⟨rfl, rfl⟩⟩
  · injection hv with hA hc
    subst hA
    refine own_gr h hf ?_
    rcases hne with e | e
    · simp [Value.ownBlock] at e
    · simpa [Value.ownBlock] using e
theorem OwnM.gr {w w' : World} {base : Nat} {h : Hd} {l : List Int} {row : Option Nat} (k : OwnM w base h l) (hf : Gr row w w') (hne : h.blk = none ∨ h.blk ≠ row) : OwnM w' base h l := own_grv k hf (by rw [Hd.own]; exact hne)
theorem OwnM.keep {w w' : World} {base : Nat} {h : Hd} {l : List Int} (k : OwnM w base h l) (b : Bel w w') : OwnM w' base h l := b.owns k
theorem OwnM.lt {w : World} {base : Nat} {h : Hd} {l : List Int} (k : OwnM w base h l) {b : Nat} (hb : h.blk = some b) : base ≤ b ∧ b < w.heap.size := World.ownsRow.lt k b (by rw [Hd.own]; exact hb)
/-- An open loop: its place, its values, and where they lie. -/
structure Frm where
  at_ : Nat
  pt : Nat
  vals : List Int
  hd : Hd
def Frm.lp (f : Frm) : Nat × List Int := (f.at_, f.vals)
def rowL (fc : Frm → List Value) (fr : List Frm) : List Value := fr.reverse.flatMap fc
theorem rowL_cons (fc : Frm → List Value) (f : Frm) (fr : List Frm) : rowL fc (f :: fr) = rowL fc fr ++ fc f := by simp [rowL]
theorem rowL_length {fc : Frm → List Value} {sz : Nat} (hfc : ∀ f, (fc f).length = sz) (fr : List Frm) : (rowL fc fr).length = fr.length * sz := by
  induction fr with
  | nil => simp [rowL]
  | cons f fr ih => rw [rowL_cons, List.length_append, ih, hfc, List.length_cons, Nat.add_mul]; omega
/-- The rows of a machine: sz cells for a loop, in a row with elements of type e. -/
structure Rw (e : TypeId) (sz : Nat) (fc : Frm → List Value) (w : World) (base : Nat) (S L : Hd) (st : List Int) (fr : List Frm) : Prop where
  stack : OwnM w base S st.reverse
  loops : w.ownsRow base e sz (L.val fr.length) fr.length (rowL fc fr)
  vals : ∀ f ∈ fr, OwnM w base f.hd f.vals
  apS : ∀ f ∈ fr, Ap f.hd S
  apF : (fr.map Frm.hd).Pairwise Ap
section
variable {e : TypeId} {sz : Nat} {fc : Frm → List Value} {w w' : World} {base : Nat} {S L : Hd} {st : List Int} {fr : List Frm}
theorem Rw.nil (w : World) (base : Nat) : Rw e sz fc w base (none, 0) (none, 0) [] [] :=
  ⟨World.ownsRow_nil _ _ _ _, World.ownsRow_nil _ _ _ _, (fun f h => by cases h), (fun f h => by cases h), List.Pairwise.nil⟩
theorem Rw.keep (h : Rw e sz fc w base S L st fr) (k : Bel w w') : Rw e sz fc w' base S L st fr :=
  ⟨h.stack.keep k, k.owns h.loops, fun f hf => (h.vals f hf).keep k, h.apS, h.apF⟩
theorem Rw.offL (h : Rw e sz fc w base S L st fr) (hne : e ≠ 3) {hd : Hd} {l : List Int} (k : OwnM w base hd l) : hd.blk = none ∨ hd.blk ≠ L.blk := by
  have := own_other h.loops k hne
  rwa [Hd.own, Hd.own] at this
theorem Rw.offI (h : Rw e sz fc w base S L st fr) (hne : e ≠ 3) {hd : Hd} {l : List Int} (k : OwnM w base hd l) : L.blk = none ∨ L.blk ≠ hd.blk := by
  have := own_other k h.loops hne.symm
  rwa [Hd.own, Hd.own] at this
/-- A block that is not of the machine's rows is written. -/
theorem Rw.gr (h : Rw e sz fc w base S L st fr) {row : Option Nat} (k : Gr row w w') (hS : S.blk = none ∨ S.blk ≠ row) (hL : L.blk = none ∨ L.blk ≠ row) (hF : ∀ f ∈ fr, f.hd.blk = none ∨ f.hd.blk ≠ row) : Rw e sz fc w' base S L st fr :=
  ⟨h.stack.gr k hS, own_grv h.loops k (by rw [Hd.own]; exact hL), fun f hf => (h.vals f hf).gr k (hF f hf), h.apS, h.apF⟩
theorem Rw.set (h : Rw e sz fc w base S L st fr) {B : Nat} {cs : Array Value} {t : TypeId} (hB : Blk w B cs t) (h1 : t ≠ 3) (h2 : t ≠ e) (i : Nat) (u : Value) : Rw e sz fc (w.setCell ⟨B, i, none⟩ u) base S L st fr := by
  have ap : ∀ {e' : TypeId} {size n : Nat} {hd : Hd} {xs : List Value}, t ≠ e' → w.ownsRow base e' size (hd.val n) n xs → hd.blk ≠ some B := fun hne k hh => hB.apart k hne (by rw [Hd.own]; exact hh.symm)
  refine ⟨?_, ?_, fun f hf => ?_, h.apS, h.apF⟩
  · exact ownsRow_setCell_other h.stack (by rw [Hd.own]; exact ap h1 h.stack) _
  · exact ownsRow_setCell_other h.loops (by rw [Hd.own]; exact ap h2 h.loops) _
  · exact ownsRow_setCell_other (h.vals f hf) (by rw [Hd.own]; exact ap h1 (h.vals f hf)) _
theorem Rw.push (h : Rw e sz fc w base S L st fr) (hne : e ≠ 3) {S' : Hd} {a : Int} (ho : OwnM w' base S' (a :: st).reverse) (hg : w.grownBy w' S.blk) (hb : S'.blk = S.blk ∨ S'.blk = some w.heap.size) : Rw e sz fc w' base S' L (a :: st) fr := by
  have hk : Gr S.blk w w' := Gr.grown hg
  refine ⟨ho, own_grv h.loops hk (by rw [Hd.own]; exact h.offI hne h.stack), fun f hf => (h.vals f hf).gr hk (h.apS f hf), fun f hf => ?_, h.apF⟩
  rcases hb with hb | hb
  · rcases h.apS f hf with k | k
    · exact .inl k
    · exact .inr (by rw [hb]; exact k)
  · refine .inr fun he => ?_
    rw [hb] at he
    have := ((h.vals f hf).lt he).2
    omega
theorem Rw.pop (h : Rw e sz fc w base S L st fr) : Rw e sz fc w base S L st.tail fr := by
  refine ⟨?_, h.loops, h.vals, h.apS, h.apF⟩
  cases st with
  | nil => exact h.stack
  | cons a st =>
    have h1 := h.stack
    unfold OwnM Hd.val at h1 ⊢
    have := own_take h1 st.length (by simp)
    rw [List.reverse_cons, List.map_append, Nat.mul_one, List.take_left' (by simp)] at this
    simpa using this
theorem Rw.pushL (h : Rw e sz fc w base S L st fr) (hne : e ≠ 3) {L' : Hd} {i : Nat} (ho : w'.ownsRow base e sz (L'.val (fr.length + 1)) (fr.length + 1) (rowL fc fr ++ fc ⟨i, 0, [], (none, 0)⟩)) (hg : w.grownBy w' L.blk) : Rw e sz fc w' base S L' st (⟨i, 0, [], (none, 0)⟩ :: fr) := by
  have hk : Gr L.blk w w' := Gr.grown hg
  refine ⟨h.stack.gr hk (h.offL hne h.stack), by rw [rowL_cons]; exact ho, fun f hf => ?_, fun f hf => ?_, ?_⟩
  · rcases List.mem_cons.1 hf with rfl | hf
    · exact World.ownsRow_nil _ _ _ _
    · exact (h.vals f hf).gr hk (h.offL hne (h.vals f hf))
  · rcases List.mem_cons.1 hf with rfl | hf
    · exact .inl rfl
    · exact h.apS f hf
  · rw [List.map_cons, List.pairwise_cons]
    exact ⟨fun a _ => .inl rfl, h.apF⟩
theorem Rw.dropL {f : Frm} (hfc : ∀ f, (fc f).length = sz) (h : Rw e sz fc w base S L st (f :: fr)) : Rw e sz fc w base S L st fr := by
  refine ⟨h.stack, ?_, fun g hg => h.vals g (List.mem_cons_of_mem _ hg), fun g hg => h.apS g (List.mem_cons_of_mem _ hg), ?_⟩
  · have h1 := h.loops
    unfold Hd.val at h1 ⊢
    have := own_take h1 fr.length (by simp)
    rwa [rowL_cons, List.take_left' (rowL_length hfc fr)] at this
  · have := h.apF
    rw [List.map_cons, List.pairwise_cons] at this
    exact this.2
/-- The values of the innermost loop have grown; its cells in the row of loops are still the old ones. -/
theorem Rw.pushV {f : Frm} (h : Rw e sz fc w base S L st (f :: fr)) (hne : e ≠ 3) {V : Hd} {a : Int} (ho : OwnM w' base V (f.vals ++ [a])) (hg : w.grownBy w' f.hd.blk) (hb : V.blk = f.hd.blk ∨ V.blk = some w.heap.size) :
    OwnM w' base S st.reverse ∧ w'.ownsRow base e sz (L.val (fr.length + 1)) (fr.length + 1) (rowL fc (f :: fr)) ∧ ∀ f', f'.vals = f.vals ++ [a] → f'.hd = V → (∀ g ∈ f' :: fr, OwnM w' base g.hd g.vals) ∧ (∀ g ∈ f' :: fr, Ap g.hd S) ∧ ((f' :: fr).map Frm.hd).Pairwise Ap := by
  have hk : Gr f.hd.blk w w' := Gr.grown hg
  have hfm : f ∈ f :: fr := List.mem_cons_self ..
  have hF := h.apF
  rw [List.map_cons, List.pairwise_cons] at hF
  have hapr : ∀ g ∈ fr, Ap f.hd g.hd := fun g hg => hF.1 _ (List.mem_map.2 ⟨g, hg, rfl⟩)
  refine ⟨h.stack.gr hk (h.apS f hfm).symm, own_grv h.loops hk (by rw [Hd.own]; exact h.offI hne (h.vals f hfm)), ?_⟩
  intro f' e1 e2
  have newAp : ∀ {X : Hd} {l : List Int}, OwnM w base X l → Ap f.hd X → Ap f'.hd X := fun {X l} hX hA => by
    rw [e2]
    rcases hb with hb | hb
    · rcases hA with k | k
      · exact .inl (by rw [hb]; exact k)
      · exact .inr (by rw [hb]; exact k)
    · refine .inr fun he => ?_
      rw [hb] at he
      have := (hX.lt he.symm).2
      omega
  refine ⟨fun g hg => ?_, fun g hg => ?_, ?_⟩
  · rcases List.mem_cons.1 hg with rfl | hg
    · rw [e1, e2]; exact ho
    · exact (h.vals g (List.mem_cons_of_mem _ hg)).gr hk (hapr g hg).symm
  · rcases List.mem_cons.1 hg with rfl | hg
    · exact newAp h.stack (h.apS f hfm)
    · exact h.apS g (List.mem_cons_of_mem _ hg)
  · rw [List.map_cons, List.pairwise_cons]
    refine ⟨fun X hX => ?_, hF.2⟩
    obtain ⟨g, hg, rfl⟩ := List.mem_map.1 hX
    exact newAp (h.vals g (List.mem_cons_of_mem _ hg)) (hapr g hg)
/-- A cell in the row of loops is written. -/
theorem Rw.setL {g : Nat} {c : Nat} {f' : Frm} {xs : List Value} (hne : e ≠ 3) (h1 : OwnM w base S st.reverse) (h2 : w.ownsRow base e sz (.slice (some ⟨g, 0, none⟩) (fr.length + 1) c) (fr.length + 1) xs) (h3 : ∀ x ∈ f' :: fr, OwnM w base x.hd x.vals) (h4 : ∀ x ∈ f' :: fr, Ap x.hd S) (h5 : ((f' :: fr).map Frm.hd).Pairwise Ap) (j : Nat) (u : Value) (hxs : xs.set j u = rowL fc (f' :: fr)) :
    Rw e sz fc (w.setCell ⟨g, j, none⟩ u) base S (some ⟨g, 0, none⟩, c) st (f' :: fr) := by
  have off : ∀ {X : Hd} {l : List Int}, OwnM w base X l → (X.val l.length).ownBlock ≠ some g := fun {X l} hX he => by
    rcases own_other h2 hX hne with k | k
    · rw [k] at he; cases he
    · exact k (by rw [he]; rfl)
  refine ⟨?_, ?_, fun x hx => ?_, h4, h5⟩
  · exact ownsRow_setCell_other h1 (a := ⟨g, j, none⟩) (by have := off h1; simpa using this) u
  · rw [← hxs]; exact (h2.stored j u).1
  · exact ownsRow_setCell_other (h3 x hx) (a := ⟨g, j, none⟩) (off (h3 x hx)) u
end
theorem own_lenI {w : World} {base : Nat} {A : Option Addr} {c : Nat} {st : List Int} (h : OwnM w base (A, c) st.reverse) : w.ownsRow base 3 1 (.slice A st.length c) st.length (st.reverse.map (Value.int .i64)) := by
  unfold OwnM Hd.val at h
  simpa using h

end Go.Proofs.YtaifafljakojnaaGreat

/- What a step of verified code may lean on. -/
namespace Go.Proofs.YtaifafljakojnaaGreat

structure StepOK (E : Env) (l : List Term) (v : Int) (s : MS) (x : Term) : Prop where
  op : 1 ≤ x.op ∧ x.op ≤ 10
  var : x.op = 2 ∨ x.op = 3 → 0 ≤ x.arg ∧ x.arg < v
  fact : x.op = 4 → 6 ≤ x.arg ∧ x.arg ≤ 17 ∧ x.arg ≠ 12
  un : x.op = 5 → x.arg = 18 ∨ x.arg = 19
  bin : x.op = 6 → 30 ≤ x.arg ∧ x.arg ≤ 42
  jmp : x.op = 7 ∨ x.op = 8 → ((x.arg.toNat : Nat) : Int) = x.arg
  port : needsF x = true → 0 ≤ portM s ∧ portM s < E.deg
  one : x.op = 5 ∨ x.op = 7 ∨ x.op = 10 → 1 ≤ s.stack.length
  two : x.op = 6 → 2 ≤ s.stack.length
  each : x.op = 9 → ∃ a : Nat, x.arg = (a : Int) ∧ a < l.length ∧ 20 ≤ (insAt l a).arg ∧ (insAt l a).arg ≤ 29
  next : x.op = 10 → 20 ≤ x.arg ∧ x.arg ≤ 29 ∧ ∃ f r, s.loops = f :: r ∧ f.2.length < E.deg ∧ ∀ y ∈ f.2, Num y
theorem step_ok {E : Env} {l : List Term} {v : Int} {H : List Int} {T : Nat → List Tr} (hv : Ver l v H T) {s : MS} (hs : MInv E l H T s) (hp : s.place < l.length) : StepOK E l v s (insAt l s.place) := by
  obtain ⟨c1, c2, c3, c4, c5, c6, _⟩ := checks_parts (hv.checks s.place hp)
  obtain ⟨k1, k2, k3, k4, k5, k6, k7, k8, k9⟩ := known_parts c2
  have hh := hs.height
  refine ⟨⟨k1, k2⟩, k4, fun h => ⟨(k5 h).1, (k5 h).2.1, (k5 h).2.2⟩, k6, k7, fun h => ?_, fun hn => ?_, fun h => ?_, fun h => ?_, fun h => ?_, fun h => ?_⟩
  · obtain ⟨_, _, j3, _, _⟩ := same_jump hv hp h
    exact j3
  · rw [hn] at c3
    exact port_ok hs.loops (fun e => by rw [e] at c3; simp at c3)
  · rcases h with h | h | h
    · have : wantsF (insAt l s.place).op = 1 := by unfold wantsF; rw [if_pos (by omega)]
      omega
    · have : wantsF (insAt l s.place).op = 1 := by unfold wantsF; rw [if_pos (by omega)]
      omega
    · obtain ⟨n1, n2⟩ := next_parts c6 h
      cases hl : s.loops with
      | nil =>
        have hlo := hs.loops
        rw [hl] at hlo
        rw [loops_nil hlo] at n1
        simp [innerF] at n1
        omega
      | cons f r =>
        have hlo := hs.loops
        rw [hl] at hlo
        obtain ⟨D, t, hT, ht, hD⟩ := loops_top hlo
        rw [hT, inner_last] at n1 n2
        obtain ⟨e0, nx, b1, b2, b3, b4, b5, b6, b7, _⟩ := ver_nested hv s.place (by omega) D t [] hT
        rw [b1] at n2
        dsimp only at n2
        have hpos := (checks_parts (hv.checks e0 (by omega))).1
        omega
  · have : wantsF (insAt l s.place).op = 2 := by unfold wantsF; rw [if_neg (by omega), if_pos h]
    omega
  · obtain ⟨a, a1, a2, a3, a4, _⟩ := loop_place hv hp h
    obtain ⟨_, c2', _⟩ := checks_parts (hv.checks a a3)
    obtain ⟨_, _, _, _, _, _, _, _, k9'⟩ := known_parts c2'
    exact ⟨a, a1, a3, (k9' a4).1, (k9' a4).2⟩
  · refine ⟨(k9 h).1, (k9 h).2, ?_⟩
    obtain ⟨n1, n2⟩ := next_parts c6 h
    cases hl : s.loops with
    | nil =>
      have hlo := hs.loops
      rw [hl] at hlo
      rw [loops_nil hlo] at n1
      simp [innerF] at n1
      omega
    | cons f r =>
      have hlo := hs.loops
      rw [hl] at hlo
      obtain ⟨v1, v2⟩ := hlo.vals f (List.mem_cons_self ..)
      exact ⟨f, r, rfl, v1, v2⟩
theorem unaryR_okM {op a : Int} (h : op = 18 ∨ op = 19) (ha : Num a) : unaryR op a = (unaryF op a, 0) := by
  unfold unaryR
  rw [if_neg (by rw [numB_true ha]; simp; omega)]
theorem binaryR_okM {op a b : Int} (h1 : 30 ≤ op) (h2 : op ≤ 42) (ha : Num a) (hb : Num b) : binaryR op a b = (binaryF op a b, 0) := by
  unfold binaryR
  rw [if_neg (by rw [numB_true ha, numB_true hb]; simp; omega)]
/-- A step makes the stack and the list of open loops at most one longer. -/
theorem step_len (E : Env) (l : List Term) (s : MS) : (stepM E l s).stack.length ≤ s.stack.length + 1 ∧ (stepM E l s).loops.length ≤ s.loops.length + 1 := by
  unfold stepM
  dsimp only
  repeat' split
  all_goals first
    | (simp only [List.length_cons, List.length_tail]; omega)
    | (unfold nextM; split
       · exact ⟨by omega, by omega⟩
       · rename_i h
         rw [h]
         split <;> (simp only [List.length_cons, List.length_tail]; omega))

end Go.Proofs.YtaifafljakojnaaGreat

