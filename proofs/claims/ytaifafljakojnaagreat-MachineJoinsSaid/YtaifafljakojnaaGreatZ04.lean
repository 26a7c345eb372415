/- Merged of: Blk WG WGa WGc (see NOTES.md). -/
import Derived.Test.YtaifafljakojnaaGreatZ03
import Derived.OneCell
import Derived.Test.YtaifafljakojnaaGreatZ02
set_option linter.unusedSimpArgs false
set_option linter.unnecessarySimpa false
set_option linter.unusedVariables false

/- Blocks that hold a struct of the call's own; frames that speak of the types of blocks. -/
namespace Go.Proofs.YtaifafljakojnaaGreat
open Go.RowKit

/-- The block holds these cells, and may be written. -/
def Blk (w : World) (B : Nat) (cs : Array Value) (t : TypeId) : Prop := w.heap[B]? = some (.cells cs t (0, 0))

theorem Blk.cell {w : World} {B : Nat} {cs : Array Value} {t : TypeId} (h : Blk w B cs t) (i : Nat) {v : Value} (hv : cs[i]? = some v) : w.cell? ⟨B, i, none⟩ = some v := by
  unfold Blk at h
  simp [World.cell?, h, hv]
theorem Blk.frozen {w : World} {B : Nat} {cs : Array Value} {t : TypeId} (h : Blk w B cs t) (i : Nat) : w.frozen? ⟨B, i, none⟩ = false := by
  unfold Blk at h
  simp [World.frozen?, h]
theorem Blk.lt {w : World} {B : Nat} {cs : Array Value} {t : TypeId} (h : Blk w B cs t) : B < w.heap.size := lt_of_block h
theorem Blk.alloc {w : World} {B : Nat} {cs : Array Value} {t : TypeId} (h : Blk w B cs t) (o : Obj) : Blk (w.alloc o) B cs t := by
  unfold Blk at *
  rw [Below.heap_alloc _ _ _ (lt_of_block h)]; exact h
theorem Blk.new (w : World) (cs : Array Value) (t : TypeId) : Blk (w.alloc (.cells cs t (0, 0))) w.heap.size cs t := heap_alloc_new w _
theorem Blk.drew {w : World} {B : Nat} {cs : Array Value} {t : TypeId} (h : Blk w B cs t) : Blk w.drew B cs t := h
theorem Blk.drewN {w : World} {B : Nat} {cs : Array Value} {t : TypeId} (h : Blk w B cs t) (k : Nat) : Blk (w.drewN k) B cs t := h
theorem Blk.set {w : World} {B : Nat} {cs : Array Value} {t : TypeId} (h : Blk w B cs t) (i : Nat) (v : Value) : Blk (w.setCell ⟨B, i, none⟩ v) B (cs.setIfInBounds i v) t := by
  unfold Blk at *
  have hlt := lt_of_block h
  have h' : w.heap[B] = .cells cs t (0, 0) := by simpa [Array.getElem?_eq_getElem hlt] using h
  show (w.heap.modify B _)[B]? = _
  rw [Array.getElem?_eq_getElem (by simpa using hlt), Array.getElem_modify_self, h']
  rfl
theorem Blk.other {w : World} {B : Nat} {cs : Array Value} {t : TypeId} (h : Blk w B cs t) {a : Addr} (ha : B ≠ a.block) (v : Value) : Blk (w.setCell a v) B cs t := by
  unfold Blk at *
  rw [Below.heap_setCell _ _ _ _ ha]; exact h
theorem Blk.keep {w w' : World} {B : Nat} {cs : Array Value} {t : TypeId} (h : Blk w B cs t) (k : Bel w w') : Blk w' B cs t := by
  unfold Blk at *
  rw [k.block B (lt_of_block h)]; exact h
theorem Blk.grown {w w' : World} {B : Nat} {cs : Array Value} {t : TypeId} (h : Blk w B cs t) {row : Option Nat} (hg : w.grownBy w' row) (hr : some B ≠ row) : Blk w' B cs t := by
  unfold Blk at *
  rw [hg.block B (lt_of_block h) hr]; exact h
/-- A struct's block is not the block of a row with elements of another type. -/
theorem Blk.apart {w : World} {B : Nat} {cs : Array Value} {t e : TypeId} {base size n : Nat} {v : Value} {xs : List Value} (h : Blk w B cs t) (ho : w.ownsRow base e size v n xs) (hne : t ≠ e) : some B ≠ v.ownBlock := by
  rcases ho.2 with ⟨rfl, _⟩ | ⟨g, cap, cur, rfl, _, hg, _⟩
  · simp [Value.ownBlock]
  · simp only [Value.ownBlock]
    intro he
    injection he with he
    subst he
    unfold Blk at h
    rw [h] at hg
    injection hg with hg
    injection hg with _ ht
    exact hne ht

/-- All blocks whose types are not listed are as they were. -/
def TFrame (S : List TypeId) (w w' : World) : Prop := ∀ (k : Nat) (cs : Array Value) (t : TypeId) (fr : Nat × Nat), w.heap[k]? = some (.cells cs t fr) → S.contains t = false → w'.heap[k]? = some (.cells cs t fr)
theorem TFrame.refl (S : List TypeId) (w : World) : TFrame S w w := fun _ _ _ _ h _ => h
theorem TFrame.trans {S : List TypeId} {a b c : World} (h : TFrame S a b) (k : TFrame S b c) : TFrame S a c := fun i cs t fr hi ht => k i cs t fr (h i cs t fr hi ht) ht
theorem TFrame.of_bel {S : List TypeId} {w w' : World} (h : Bel w w') : TFrame S w w' := fun k cs t fr hk _ => by rw [h.block k (lt_of_block hk)]; exact hk
theorem TFrame.alloc {S : List TypeId} {a w : World} (h : TFrame S a w) (o : Obj) : TFrame S a (w.alloc o) := h.trans (TFrame.of_bel ((Bel.refl w).alloc o))
theorem TFrame.drew {S : List TypeId} {a w : World} (h : TFrame S a w) : TFrame S a w.drew := h
theorem TFrame.grown {S : List TypeId} {a w w' : World} (h : TFrame S a w) {base : Nat} {e : TypeId} {size n : Nat} {v : Value} {xs : List Value} (ho : w.ownsRow base e size v n xs) (he : S.contains e = true) (hg : w.grownBy w' v.ownBlock) : TFrame S a w' :=
  h.trans fun k cs t fr hk ht => by
    rw [hg.block k (lt_of_block hk) ?_]
    · exact hk
    · rcases ho.2 with ⟨rfl, _⟩ | ⟨g, cap, cur, rfl, _, hgg, _⟩
      · simp [Value.ownBlock]
      · simp only [Value.ownBlock]
        intro hh
        injection hh with hh
        subst hh
        rw [hk] at hgg
        injection hgg with hgg
        injection hgg with _ h2
        subst h2
        rw [he] at ht; cases ht
theorem TFrame.set {S : List TypeId} {a w : World} (h : TFrame S a w) {B : Nat} {cs : Array Value} {t : TypeId} (hb : Blk w B cs t) (ht : S.contains t = true) (i : Nat) (v : Value) : TFrame S a (w.setCell ⟨B, i, none⟩ v) :=
  h.trans fun k cs' t' fr hk ht' => by
    rw [Below.heap_setCell _ _ _ _ ?_]
    · exact hk
    · rintro rfl
      unfold Blk at hb
      rw [hb] at hk
      injection hk with hk
      injection hk with _ h2
      subst h2
      rw [ht] at ht'; cases ht'
/-- The block of a row of the call's own. -/
theorem own_blk {w : World} {base : Nat} {e : TypeId} {size g n c : Nat} {xs : List Value} (h : w.ownsRow base e size (.slice (some ⟨g, 0, none⟩) n c) n xs) : ∃ cs, Blk w g cs e := by
  rcases h.2 with ⟨hv, _⟩ | ⟨g', cap, cur, hv, _, hg, _⟩
  · cases hv
  · injection hv with hA _ _
    injection hA with hA
    injection hA with hA
    subst hA
    exact ⟨cur, hg⟩
theorem Blk.of_frame {S : List TypeId} {w w' : World} {B : Nat} {cs : Array Value} {t : TypeId} (h : Blk w B cs t) (k : TFrame S w w') (ht : S.contains t = false) : Blk w' B cs t := k B cs t (0, 0) h ht

theorem own_lower {w : World} {base base' : Nat} {e : TypeId} {size : Nat} {v : Value} {n : Nat} {xs : List Value} (h : w.ownsRow base e size v n xs) (hb : base' ≤ base) : w.ownsRow base' e size v n xs := by
  refine ⟨h.1, ?_⟩
  rcases h.2 with hn | ⟨g, cap, cur, hv, hg, rest⟩
  · exact .inl hn
  · exact .inr ⟨g, cap, cur, hv, Nat.le_trans hb hg, rest⟩

end Go.Proofs.YtaifafljakojnaaGreat

/- What graphs, programs and configurations read as in memory. -/
namespace Go.Proofs.YtaifafljakojnaaGreat
open Go.RowKit

/-- A slice in a cell, whose elements read as a list. -/
def RowAt {α : Type} (size : Nat) (E : World → Nat → Nat → α → Prop) (w : World) (b o : Nat) (xs : List α) : Prop :=
  ∃ A c, w.cell? ⟨b, o, none⟩ = some (.slice A xs.length c) ∧ SliceR size E w A xs.length xs ∧ xs.length ≤ c ∧ c ≤ maxLen
theorem RowAt.keeps {α : Type} {size : Nat} {E : World → Nat → Nat → α → Prop} (hE : Keeps E) : Keeps (RowAt size E) := by
  intro w w' b o x k hb ⟨A, c, h1, h2, h3, h4⟩
  exact ⟨A, c, (k.cell hb).trans h1, h2.keep hE k, h3, h4⟩

def LinkAt (w : World) (b o : Nat) (l : Link) : Prop := w.cell? ⟨b, o, none⟩ = some (.int .i64 l.to) ∧ w.cell? ⟨b, o + 1, none⟩ = some (.int .i64 l.weight)
theorem LinkAt.keeps : Keeps LinkAt := fun _ _ _ _ _ k hb h => ⟨(k.cell hb).trans h.1, (k.cell hb).trans h.2⟩
def LinksR := SliceR 2 LinkAt
def PortsR := SliceR 1 (RowAt 2 LinkAt)
def RowsR := SliceR 1 (RowAt 1 IntAt)
theorem LinksR.keep {w w' : World} {A : Option Addr} {n : Nat} {xs : List Link} (h : LinksR w A n xs) (k : Bel w w') : LinksR w' A n xs := SliceR.keep LinkAt.keeps h k
theorem PortsR.keep {w w' : World} {A : Option Addr} {n : Nat} {xs : List (List Link)} (h : PortsR w A n xs) (k : Bel w w') : PortsR w' A n xs := SliceR.keep (RowAt.keeps LinkAt.keeps) h k
theorem RowsR.keep {w w' : World} {A : Option Addr} {n : Nat} {xs : List (List Int)} (h : RowsR w A n xs) (k : Bel w w') : RowsR w' A n xs := SliceR.keep (RowAt.keeps IntAt.keeps) h k

theorem LinksR.at_ {w : World} {A : Option Addr} {n : Nat} {xs : List Link} (h : LinksR w A n xs) (k : Nat) (hk : k < xs.length) :
    ∃ b o, A = some ⟨b, o, none⟩ ∧ b < w.heap.size ∧ w.cell? ⟨b, o + k * 2, none⟩ = some (.int .i64 xs[k].to) ∧ w.cell? ⟨b, o + k * 2 + 1, none⟩ = some (.int .i64 xs[k].weight) := SliceR.at_ h k hk
theorem RowsAt.at_ {α : Type} {size : Nat} {E : World → Nat → Nat → α → Prop} {w : World} {A : Option Addr} {n : Nat} {xs : List (List α)} (h : SliceR 1 (RowAt size E) w A n xs) (k : Nat) (hk : k < xs.length) :
    ∃ b o R c, A = some ⟨b, o, none⟩ ∧ b < w.heap.size ∧ w.cell? ⟨b, o + k, none⟩ = some (.slice R xs[k].length c) ∧ SliceR size E w R xs[k].length xs[k] ∧ xs[k].length ≤ c ∧ c ≤ maxLen := by
  obtain ⟨b, o, e, hb, R, c, h1, h2, h3, h4⟩ := SliceR.at_ h k hk
  exact ⟨b, o, R, c, e, hb, by rw [Nat.mul_one] at h1; exact h1, h2, h3, h4⟩
theorem PortsR.at_ {w : World} {A : Option Addr} {n : Nat} {xs : List (List Link)} (h : PortsR w A n xs) (k : Nat) (hk : k < xs.length) :
    ∃ b o R c, A = some ⟨b, o, none⟩ ∧ b < w.heap.size ∧ w.cell? ⟨b, o + k, none⟩ = some (.slice R xs[k].length c) ∧ LinksR w R xs[k].length xs[k] ∧ xs[k].length ≤ c ∧ c ≤ maxLen := RowsAt.at_ h k hk
theorem RowsR.at_ {w : World} {A : Option Addr} {n : Nat} {xs : List (List Int)} (h : RowsR w A n xs) (k : Nat) (hk : k < xs.length) :
    ∃ b o R c, A = some ⟨b, o, none⟩ ∧ b < w.heap.size ∧ w.cell? ⟨b, o + k, none⟩ = some (.slice R xs[k].length c) ∧ IntsR w R xs[k].length xs[k] ∧ xs[k].length ≤ c ∧ c ≤ maxLen := RowsAt.at_ h k hk

/-- A graph by value. -/
def GraphV (w : World) (v : Value) (g : Graph) : Prop :=
  ∃ A c A2 c2, v = .agg #[.slice A g.ids.length c, .slice A2 g.ports.length c2] ∧ IntsR w A g.ids.length g.ids ∧ g.ids.length ≤ c ∧ c ≤ maxLen ∧ PortsR w A2 g.ports.length g.ports ∧ g.ports.length ≤ c2 ∧ c2 ≤ maxLen
theorem GraphV.keep {w w' : World} {v : Value} {g : Graph} (h : GraphV w v g) (k : Bel w w') : GraphV w' v g := by
  obtain ⟨A, c, A2, c2, e, h1, h2, h3, h4, h5, h6⟩ := h
  exact ⟨A, c, A2, c2, e, h1.keep k, h2, h3, h4.keep k, h5, h6⟩

def VarAt (w : World) (b o : Nat) (x : Var) : Prop :=
  w.cell? ⟨b, o, none⟩ = some (.string x.name) ∧ w.cell? ⟨b, o + 1, none⟩ = some (.int .i64 x.kind) ∧ w.cell? ⟨b, o + 2, none⟩ = some (.int .i64 x.lo) ∧ w.cell? ⟨b, o + 3, none⟩ = some (.int .i64 x.hi) ∧ w.cell? ⟨b, o + 4, none⟩ = some (.int .i64 x.perNode) ∧ w.cell? ⟨b, o + 5, none⟩ = some (.int .i64 x.perID)
theorem VarAt.keeps : Keeps VarAt := fun _ _ _ _ _ k hb h => ⟨(k.cell hb).trans h.1, (k.cell hb).trans h.2.1, (k.cell hb).trans h.2.2.1, (k.cell hb).trans h.2.2.2.1, (k.cell hb).trans h.2.2.2.2.1, (k.cell hb).trans h.2.2.2.2.2⟩
def VarsR := SliceR 6 VarAt
theorem VarsR.keep {w w' : World} {A : Option Addr} {n : Nat} {xs : List Var} (h : VarsR w A n xs) (k : Bel w w') : VarsR w' A n xs := SliceR.keep VarAt.keeps h k
theorem VarsR.at_ {w : World} {A : Option Addr} {n : Nat} {xs : List Var} (h : VarsR w A n xs) (k : Nat) (hk : k < xs.length) :
    ∃ b o, A = some ⟨b, o, none⟩ ∧ b < w.heap.size ∧ VarAt w b (o + k * 6) xs[k] := SliceR.at_ h k hk

def SetAt (w : World) (b o : Nat) (x : SetT) : Prop := w.cell? ⟨b, o, none⟩ = some (.int .i64 x.var) ∧ RowAt 2 TermAt w b (o + 1) x.value
theorem SetAt.keeps : Keeps SetAt := fun _ _ _ _ _ k hb h => ⟨(k.cell hb).trans h.1, RowAt.keeps TermAt.keeps _ _ _ _ _ k hb h.2⟩
def SetsR := SliceR 2 SetAt
theorem SetsR.keep {w w' : World} {A : Option Addr} {n : Nat} {xs : List SetT} (h : SetsR w A n xs) (k : Bel w w') : SetsR w' A n xs := SliceR.keep SetAt.keeps h k
theorem SetsR.at_ {w : World} {A : Option Addr} {n : Nat} {xs : List SetT} (h : SetsR w A n xs) (k : Nat) (hk : k < xs.length) :
    ∃ b o R c, A = some ⟨b, o, none⟩ ∧ b < w.heap.size ∧ w.cell? ⟨b, o + k * 2, none⟩ = some (.int .i64 xs[k].var) ∧ w.cell? ⟨b, o + k * 2 + 1, none⟩ = some (.slice R xs[k].value.length c) ∧ TermsR w R xs[k].value.length xs[k].value ∧ xs[k].value.length ≤ c ∧ c ≤ maxLen := by
  obtain ⟨b, o, e, hb, h1, R, c, h2, h3, h4, h5⟩ := SliceR.at_ h k hk
  exact ⟨b, o, R, c, e, hb, h1, h2, h3, h4, h5⟩

def RuleAt (w : World) (b o : Nat) (x : Rule) : Prop := w.cell? ⟨b, o, none⟩ = some (.string x.name) ∧ RowAt 2 TermAt w b (o + 1) x.guard ∧ RowAt 2 SetAt w b (o + 2) x.sets
theorem RuleAt.keeps : Keeps RuleAt := fun _ _ _ _ _ k hb h => ⟨(k.cell hb).trans h.1, RowAt.keeps TermAt.keeps _ _ _ _ _ k hb h.2.1, RowAt.keeps SetAt.keeps _ _ _ _ _ k hb h.2.2⟩
def RulesR := SliceR 3 RuleAt
theorem RulesR.keep {w w' : World} {A : Option Addr} {n : Nat} {xs : List Rule} (h : RulesR w A n xs) (k : Bel w w') : RulesR w' A n xs := SliceR.keep RuleAt.keeps h k
/-- A rule by value: its guard, its sets. -/
def RuleV (w : World) (v : Value) (r : Rule) : Prop :=
  ∃ G c S c2, v = .agg #[.string r.name, .slice G r.guard.length c, .slice S r.sets.length c2] ∧ TermsR w G r.guard.length r.guard ∧ r.guard.length ≤ c ∧ c ≤ maxLen ∧ SetsR w S r.sets.length r.sets ∧ r.sets.length ≤ c2 ∧ c2 ≤ maxLen
theorem RuleV.keep {w w' : World} {v : Value} {g : Rule} (h : RuleV w v g) (k : Bel w w') : RuleV w' v g := by
  obtain ⟨A, c, A2, c2, e, h1, h2, h3, h4, h5, h6⟩ := h
  exact ⟨A, c, A2, c2, e, h1.keep k, h2, h3, h4.keep k, h5, h6⟩
theorem RulesR.at_ {w : World} {A : Option Addr} {n : Nat} {xs : List Rule} (h : RulesR w A n xs) (k : Nat) (hk : k < xs.length) :
    ∃ b o G c S c2, A = some ⟨b, o, none⟩ ∧ b < w.heap.size ∧ w.cell? ⟨b, o + k * 3, none⟩ = some (.string xs[k].name) ∧ w.cell? ⟨b, o + k * 3 + 1, none⟩ = some (.slice G xs[k].guard.length c) ∧ w.cell? ⟨b, o + k * 3 + 2, none⟩ = some (.slice S xs[k].sets.length c2)
      ∧ TermsR w G xs[k].guard.length xs[k].guard ∧ xs[k].guard.length ≤ c ∧ c ≤ maxLen ∧ SetsR w S xs[k].sets.length xs[k].sets ∧ xs[k].sets.length ≤ c2 ∧ c2 ≤ maxLen := by
  obtain ⟨b, o, e, hb, h1, ⟨G, c, h2, h3, h4, h5⟩, S, c2, h6, h7, h8, h9⟩ := SliceR.at_ h k hk
  exact ⟨b, o, G, c, S, c2, e, hb, h1, h2, h6, h3, h4, h5, h7, h8, h9⟩

/-- A program by value. -/
def PrgV (w : World) (v : Value) (p : Prg) : Prop :=
  ∃ A c A2 c2, v = .agg #[.string p.name, .slice A p.vars.length c, .slice A2 p.rules.length c2] ∧ VarsR w A p.vars.length p.vars ∧ p.vars.length ≤ c ∧ c ≤ maxLen ∧ RulesR w A2 p.rules.length p.rules ∧ p.rules.length ≤ c2 ∧ c2 ≤ maxLen
theorem PrgV.keep {w w' : World} {v : Value} {p : Prg} (h : PrgV w v p) (k : Bel w w') : PrgV w' v p := by
  obtain ⟨A, c, A2, c2, e, h1, h2, h3, h4, h5, h6⟩ := h
  exact ⟨A, c, A2, c2, e, h1.keep k, h2, h3, h4.keep k, h5, h6⟩

/-- A configuration by value. -/
def ConfV (w : World) (v : Value) (c : Config) : Prop := ∃ A k, v = .slice A c.length k ∧ RowsR w A c.length c ∧ c.length ≤ k ∧ k ≤ maxLen
theorem ConfV.keep {w w' : World} {v : Value} {c : Config} (h : ConfV w v c) (k : Bel w w') : ConfV w' v c := by
  obtain ⟨A, n, e, h1, h2, h3⟩ := h
  exact ⟨A, n, e, h1.keep k, h2, h3⟩

end Go.Proofs.YtaifafljakojnaaGreat

/- Contracts: what is light. -/
namespace Go.Proofs.YtaifafljakojnaaGreat
open Go.RowKit

theorem all_take_succ {α : Type} {f : α → Bool} {l : List α} {k : Nat} (h : k < l.length) (ha : (l.take k).all f = true) (hk : f l[k] = true) : (l.take (k + 1)).all f = true := by
  rw [List.take_succ_eq_append_getElem h, List.all_append, ha]; simp [hk]
theorem all_false_at {α : Type} {f : α → Bool} {l : List α} {k : Nat} (h : k < l.length) (hk : f l[k] = false) : l.all f = false := by
  rw [List.all_eq_false]; exact ⟨l[k], List.getElem_mem h, by simp [hk]⟩
theorem all_of_take {α : Type} {f : α → Bool} {l : List α} {k : Nat} (h : l.length ≤ k) (ha : (l.take k).all f = true) : l.all f = true := by rwa [List.take_of_length_le h] at ha

def lightC (c : Config) : Bool := decide (c.length ≤ 30) && c.all fun r => decide (r.length ≤ 10)

set_option maxRecDepth 100000 in
theorem lightConfig_any (v : Value) (c : Config) (w : World) (h : ConfV w v c) :
    Calls Tryz.prog 25 #[v] w fun e w' => e = .returned (.bool (lightC c)) ∧ w = w' := by
  obtain ⟨A, k, rfl, hr, _, _⟩ := h
  have H := Lib.hid hr; clear hr
  by_cases hl : c.length ≤ 30
  · go_enter Tryz.func25, Tryz.ntmps25
    go_wp2
    go_loopg [3] c.length (fun g i wr => ∃ j : Nat, j ≤ c.length ∧ g = c.length - j ∧ Hid ((c.take j).all (fun r => decide (r.length ≤ 10)) = true) ∧ i = .int .i64 j ∧ w = wr)
    case atStart => exact ⟨0, by omega, rfl, rfl, rfl, rfl⟩
    case round =>
      obtain ⟨j, hj, rfl, HK, rfl, rfl⟩ := hrel
      by_cases hlt : j < c.length
      · obtain ⟨b, o, R, c1, rfl, hb, hc1, _, _, _⟩ := H.out.at_ j hlt
        go_wp2
        · go_ret
          exact ⟨ret_bool (by unfold lightC; rw [all_false_at hlt (by simp; omega)]; simp), rfl⟩
        · go_roundg (c.length - (j + 1))
          case rel => exact ⟨j + 1, by omega, rfl, all_take_succ hlt HK.out (by simp; omega), by go_num, rfl⟩
          case measure => omega
      · go_wp2
        go_ret
        exact ⟨ret_bool (by unfold lightC; rw [all_of_take (by omega) HK.out]; simp [hl]), rfl⟩
  · go_enter Tryz.func25, Tryz.ntmps25
    go_wp2
    go_ret
    exact ⟨ret_bool (by unfold lightC; simp [hl]), rfl⟩

def lightG (g : Graph) : Bool := decide (g.ids.length ≤ 30) && decide (g.ports.length ≤ 30) && g.ports.all fun r => decide (r.length ≤ 30)
set_option maxRecDepth 100000 in
theorem lightGraph_any (v : Value) (g : Graph) (w : World) (h : GraphV w v g) :
    Calls Tryz.prog 48 #[v] w fun e w' => e = .returned (.bool (lightG g)) ∧ Bel w w' := by
  obtain ⟨A, k, A2, k2, rfl, _, _, _, hr, _, _⟩ := h
  have H := Lib.hid hr; clear hr
  by_cases hl : g.ids.length ≤ 30 ∧ g.ports.length ≤ 30
  · obtain ⟨hl1, hl2⟩ := hl
    go_enter Tryz.func48, Tryz.ntmps48
    go_wp2
    go_loopg [3] g.ports.length (fun m i wr => ∃ j : Nat, j ≤ g.ports.length ∧ m = g.ports.length - j ∧ Hid ((g.ports.take j).all (fun r => decide (r.length ≤ 30)) = true) ∧ i = .int .i64 j ∧ w.alloc (.cells #[.slice A g.ids.length k, .slice A2 g.ports.length k2] 30) = wr)
    case atStart => exact ⟨0, by omega, rfl, rfl, rfl, rfl⟩
    case round =>
      obtain ⟨j, hj, rfl, HK, rfl, rfl⟩ := hrel
      by_cases hlt : j < g.ports.length
      · obtain ⟨b, o, R, c1, rfl, hb, hc1, _, _, _⟩ := H.out.at_ j hlt
        go_wp2
        · go_ret
          exact ⟨ret_bool (by unfold lightG; rw [all_false_at hlt (by simp; omega)]; simp), (Bel.refl _).alloc _⟩
        · go_roundg (g.ports.length - (j + 1))
          case rel => exact ⟨j + 1, by omega, rfl, all_take_succ hlt HK.out (by simp; omega), by go_num, rfl⟩
          case measure => omega
      · go_wp2
        go_ret
        exact ⟨ret_bool (by unfold lightG; rw [all_of_take (by omega) HK.out]; simp [hl1, hl2]), (Bel.refl _).alloc _⟩
  · have hf : Hid (lightG g = false) := by
      show lightG g = false
      unfold lightG
      rw [Bool.eq_false_iff]; intro h; simp at h; omega
    by_cases h1 : 30 < g.ids.length
    · go_enter Tryz.func48, Tryz.ntmps48
      go_wp2
      go_ret
      exact ⟨ret_bool hf.out.symm, (Bel.refl _).alloc _⟩
    · have h2 : 30 < g.ports.length := by omega
      clear hl
      go_enter Tryz.func48, Tryz.ntmps48
      go_wp2
      go_ret
      exact ⟨ret_bool hf.out.symm, (Bel.refl _).alloc _⟩

def degreesF (g : Graph) : Nat := (g.ports.map List.length).foldl max 1
theorem take_foldl_succ {α β : Type} (f : β → α → β) (b : β) (l : List α) (k : Nat) (h : k < l.length) : (l.take (k + 1)).foldl f b = f ((l.take k).foldl f b) l[k] := by
  rw [List.take_succ_eq_append_getElem h, List.foldl_append]; rfl
theorem foldl_nmax_le (l : List Nat) (a b : Nat) (ha : a ≤ b) (h : ∀ x ∈ l, x ≤ b) : l.foldl max a ≤ b := by
  induction l generalizing a with
  | nil => exact ha
  | cons x l ih => exact ih _ (Nat.max_le.2 ⟨ha, h x (by simp)⟩) (fun y hy => h y (by simp [hy]))
theorem foldl_nmax_ge (l : List Nat) (a : Nat) : a ≤ l.foldl max a := by
  induction l generalizing a with
  | nil => exact Nat.le_refl _
  | cons x l ih => exact Nat.le_trans (Nat.le_max_left a x) (ih _)
theorem ite_nmax (a b : Nat) : ∃ m : Nat, (if a < b then (b : Int) else (a : Int)) = (m : Int) ∧ m = max a b := ⟨max a b, by split <;> omega, rfl⟩

set_option maxRecDepth 100000 in
theorem degrees_any (v : Value) (g : Graph) (w : World) (h : GraphV w v g) :
    Calls Tryz.prog 19 #[v] w fun e w' => e = .returned (.int .i64 (degreesF g : Nat)) ∧ Bel w w' := by
  obtain ⟨A, k, A2, k2, rfl, _, _, _, hr, _, hm⟩ := h
  have hmx : g.ports.length ≤ 9223372036854775807 := by unfold maxLen at hm; omega
  have H := Lib.hid hr; clear hr
  go_enter Tryz.func19, Tryz.ntmps19
  go_wp2
  go_loopg [3, 4] g.ports.length (fun m d i wr => ∃ j : Nat, j ≤ g.ports.length ∧ m = g.ports.length - j ∧ d = .int .i64 ((((g.ports.take j).map List.length).foldl max 1 : Nat) : Int) ∧ i = .int .i64 j ∧ w.alloc (.cells #[.slice A g.ids.length k, .slice A2 g.ports.length k2] 30) = wr)
  case atStart => exact ⟨0, by omega, rfl, rfl, rfl, rfl⟩
  case round =>
    obtain ⟨j, hj, rfl, rfl, rfl, rfl⟩ := hrel
    by_cases hlt : j < g.ports.length
    · obtain ⟨b, o, R, c1, rfl, hb, hc1, _, _, _⟩ := H.out.at_ j hlt
      have hs : ((g.ports.take (j + 1)).map List.length).foldl max 1 = max (((g.ports.take j).map List.length).foldl max 1) g.ports[j].length := by
        rw [List.take_succ_eq_append_getElem hlt, List.map_append, List.foldl_append]; rfl
      have HS := Lib.hid hs; clear hs
      generalize ((g.ports.take j).map List.length).foldl max 1 = D at *
      obtain ⟨m, hm1, hm2⟩ := ite_nmax D g.ports[j].length
      have HM := Lib.hid hm2; clear hm2
      go_wp2
      go_roundg (g.ports.length - (j + 1))
      case rel => exact ⟨j + 1, by omega, rfl, by rw [HS.out, ← HM.out], by go_num, rfl⟩
      case measure => omega
    · go_wp2
      go_ret
      exact ⟨ret_int (by unfold degreesF; rw [List.take_of_length_le (by omega)]), (Bel.refl _).alloc _⟩


theorem box_cell {w wr : World} {cs : Array Value} {t : TypeId} (h : Bel (w.alloc (.cells cs t)) wr) (i : Nat) {v : Value} (hv : cs[i]? = some v) : wr.cell? ⟨w.heap.size, i, none⟩ = some v :=
  (h.cell (by simp)).trans ((Blk.new w cs t).cell i hv)
theorem box_lt {w wr : World} {cs : Array Value} {t : TypeId} (h : Bel (w.alloc (.cells cs t)) wr) : w.heap.size < wr.heap.size := by
  have := h.size; simp at this; omega
theorem box_bel {w wr : World} {o : Obj} (h : Bel (w.alloc o) wr) : Bel w wr := ((Bel.refl w).alloc o).trans h

theorem box2 {w wr : World} {cs ds : Array Value} {t u : TypeId} (h : Bel ((w.alloc (.cells cs t)).alloc (.cells ds u)) wr) :
    (∀ i v, cs[i]? = some v → wr.cell? ⟨w.heap.size, i, none⟩ = some v) ∧ (∀ i v, ds[i]? = some v → wr.cell? ⟨w.heap.size + 1, i, none⟩ = some v) ∧ w.heap.size + 1 < wr.heap.size := by
  refine ⟨fun i v hv => ?_, fun i v hv => ?_, ?_⟩
  · exact (h.cell (by simp; omega)).trans (((Blk.new w cs t).alloc _).cell i hv)
  · have := box_cell h i hv
    simpa using this
  · have := box_lt h
    simpa using this
/-- A program and a graph in boxes. -/
theorem pgbox {w wr : World} {a b c d e : Value} {t u : TypeId} (h : Bel ((w.alloc (.cells #[a, b, c] t)).alloc (.cells #[d, e] u)) wr) :
    wr.cell? ⟨w.heap.size, 0, none⟩ = some a ∧ wr.cell? ⟨w.heap.size, 1, none⟩ = some b ∧ wr.cell? ⟨w.heap.size, 2, none⟩ = some c ∧ wr.cell? ⟨w.heap.size + 1, 0, none⟩ = some d ∧ wr.cell? ⟨w.heap.size + 1, 1, none⟩ = some e ∧ w.heap.size + 1 < wr.heap.size := by
  obtain ⟨h1, h2, h3⟩ := box2 h
  exact ⟨h1 0 _ rfl, h1 1 _ rfl, h1 2 _ rfl, h2 0 _ rfl, h2 1 _ rfl, h3⟩
theorem box2_bel {w wr : World} {o o2 : Obj} (h : Bel ((w.alloc o).alloc o2) wr) : Bel w wr := box_bel (box_bel h)

def lightR (r : Rule) : Bool := decide (r.name.size ≤ 40) && decide (r.sets.length ≤ 10) && decide (r.guard.length ≤ 250) && r.sets.all fun s => decide (s.value.length ≤ 250)
def lightP (p : Prg) : Bool := decide (p.name.size ≤ 40) && decide (p.vars.length ≤ 10) && decide (p.rules.length ≤ 16) && p.vars.all (fun x => decide (x.name.size ≤ 40)) && p.rules.all lightR

set_option maxRecDepth 100000 in
set_option maxHeartbeats 1000000 in
theorem lightProgram_any (v : Value) (p : Prg) (w : World) (h : PrgV w v p) :
    Calls Tryz.prog 47 #[v] w fun e w' => e = .returned (.bool (lightP p)) ∧ Bel w w' := by
  obtain ⟨A, k, A2, k2, rfl, hv, _, _, hr, _, _⟩ := h
  have HV := Lib.hid hv; clear hv
  have HR := Lib.hid (fun w' (k : Bel w w') => hr.keep k); clear hr
  by_cases hl : p.name.size ≤ 40 ∧ p.vars.length ≤ 10 ∧ p.rules.length ≤ 16
  · obtain ⟨hl1, hl2, hl3⟩ := hl
    go_enter Tryz.func47, Tryz.ntmps47
    go_wp2
    go_loopg [3] p.vars.length (fun m i wr => ∃ j : Nat, j ≤ p.vars.length ∧ m = p.vars.length - j ∧ Hid ((p.vars.take j).all (fun x => decide (x.name.size ≤ 40)) = true) ∧ i = .int .i64 j ∧ w.alloc (.cells #[.string p.name, .slice A p.vars.length k, .slice A2 p.rules.length k2] 26) = wr)
    case atStart => exact ⟨0, by omega, rfl, rfl, rfl, rfl⟩
    case round =>
      obtain ⟨j, hj, rfl, HK, rfl, rfl⟩ := hrel
      by_cases hlt : j < p.vars.length
      · obtain ⟨b, o, rfl, hb, hc1, _⟩ := HV.out.at_ j hlt
        go_wp2
        · go_ret
          exact ⟨ret_bool (by unfold lightP; rw [all_false_at hlt (by simp; omega)]; simp), (Bel.refl _).alloc _⟩
        · go_roundg (p.vars.length - (j + 1))
          case rel => exact ⟨j + 1, by omega, rfl, all_take_succ hlt HK.out (by simp; omega), by go_num, rfl⟩
          case measure => omega
      · have HVA := Lib.hid (all_of_take (by omega) HK.out); clear HK HV
        go_wp2
        go_loopg [4] p.rules.length (fun m i wr => ∃ j : Nat, j ≤ p.rules.length ∧ m = p.rules.length - j ∧ Hid ((p.rules.take j).all lightR = true) ∧ i = .int .i64 j ∧ Bel (w.alloc (.cells #[.string p.name, .slice A p.vars.length k, .slice A2 p.rules.length k2] 26)) wr)
        case atStart => exact ⟨0, by omega, rfl, rfl, rfl, Bel.refl _⟩
        case round =>
          obtain ⟨i, hi, rfl, HK, rfl, HB⟩ := hrel
          have b1 := box_cell HB 2 rfl
          have b0 := box_lt HB
          by_cases hlt : i < p.rules.length
          · obtain ⟨b, o, G, c, S, c2, rfl, hb, hc1, hc2, hc3, _, _, _, hS, _, _⟩ := (HR.out _ (box_bel HB)).at_ i hlt
            have HS := Lib.hid hS; clear hS
            have HB2 := HB.alloc (.cells #[.string p.rules[i].name, .slice G p.rules[i].guard.length c, .slice S p.rules[i].sets.length c2] 143)
            by_cases hl : p.rules[i].name.size ≤ 40 ∧ p.rules[i].sets.length ≤ 10 ∧ p.rules[i].guard.length ≤ 250
            · obtain ⟨hq1, hq2, hq3⟩ := hl
              have hd3 : decide (p.rules[i].guard.length ≤ 250) = true := by simpa using hq3
              go_wp2_with (go_at_call 18; refine (light_any _ _ _ _).mono ?_; rintro e w' ⟨rfl, rfl⟩)
              go_loopg [6] p.rules[i].sets.length (fun m x ws => ∃ j : Nat, j ≤ p.rules[i].sets.length ∧ m = p.rules[i].sets.length - j ∧ Hid ((p.rules[i].sets.take j).all (fun s => decide (s.value.length ≤ 250)) = true) ∧ x = .int .i64 j ∧ wr.alloc (.cells #[.string p.rules[i].name, .slice G p.rules[i].guard.length c, .slice S p.rules[i].sets.length c2] 143) = ws)
              case atStart => exact ⟨0, by omega, rfl, rfl, rfl, rfl⟩
              case round =>
                obtain ⟨q, hq, rfl, HQ, rfl, rfl⟩ := hrel
                by_cases hlt2 : q < p.rules[i].sets.length
                · obtain ⟨b', o', R, c', rfl, hb', hs1, hs2, _, _, _⟩ := HS.out.at_ q hlt2
                  by_cases hle : p.rules[i].sets[q].value.length ≤ 250
                  · have hd4 : decide (p.rules[i].sets[q].value.length ≤ 250) = true := by simpa using hle
                    go_wp2_with (go_at_call 18; refine (light_any _ _ _ _).mono ?_; rintro e w' ⟨rfl, rfl⟩)
                    go_roundg (p.rules[i].sets.length - (q + 1))
                    case rel => exact ⟨q + 1, by omega, rfl, all_take_succ hlt2 HQ.out (by simp; omega), by go_num, rfl⟩
                    case measure => omega
                  · have hd4 : decide (p.rules[i].sets[q].value.length ≤ 250) = false := by simpa using hle
                    go_wp2_with (go_at_call 18; refine (light_any _ _ _ _).mono ?_; rintro e w' ⟨rfl, rfl⟩)
                    go_ret
                    exact ⟨ret_bool (by unfold lightP; rw [all_false_at hlt (by unfold lightR; rw [all_false_at hlt2 hd4]; simp)]; simp), box_bel HB2⟩
                · go_wp2
                  go_roundg (p.rules.length - (i + 1))
                  case rel => exact ⟨i + 1, by omega, rfl, all_take_succ hlt HK.out (by unfold lightR; rw [all_of_take (by omega) HQ.out]; simp [hq1, hq2, hq3]), by go_num, HB2⟩
                  case measure => omega
            · have hf : Hid (lightP p = false) := by
                show lightP p = false
                unfold lightP
                rw [all_false_at hlt (by unfold lightR; rw [Bool.eq_false_iff]; intro h; simp at h; omega)]; simp
              by_cases hq : 250 < p.rules[i].guard.length
              · have hd3 : decide (p.rules[i].guard.length ≤ 250) = false := by simpa using hq
                go_wp2_with (go_at_call 18; refine (light_any _ _ _ _).mono ?_; rintro e w' ⟨rfl, rfl⟩)
                all_goals (go_ret; exact ⟨ret_bool hf.out.symm, box_bel HB2⟩)
              · have hd3 : decide (p.rules[i].guard.length ≤ 250) = true := by simpa using hq
                go_wp2_with (go_at_call 18; refine (light_any _ _ _ _).mono ?_; rintro e w' ⟨rfl, rfl⟩)
                all_goals first
                  | (go_ret; exact ⟨ret_bool hf.out.symm, box_bel HB2⟩)
                  | omega
          · go_wp2
            go_ret
            exact ⟨ret_bool (by unfold lightP; rw [HVA.out, all_of_take (by omega) HK.out]; simp [hl1, hl2, hl3]), box_bel HB⟩
  · have hf : Hid (lightP p = false) := by
      show lightP p = false
      unfold lightP
      rw [Bool.eq_false_iff]; intro h; simp at h; omega
    go_enter Tryz.func47, Tryz.ntmps47
    go_wp2
    all_goals first
      | (go_ret; exact ⟨ret_bool hf.out.symm, (Bel.refl _).alloc _⟩)
      | omega

end Go.Proofs.YtaifafljakojnaaGreat

/- Contracts of the reference's small functions on graphs: In, Port, SameInts, linksValid; and PortTo. -/
namespace Go.Proofs.YtaifafljakojnaaGreat
open Go.RowKit

def inB (v lo hi : Int) : Bool := decide (lo ≤ v ∧ v ≤ hi)
theorem inB_true {v lo hi : Int} (h1 : lo ≤ v) (h2 : v ≤ hi) : inB v lo hi = true := by unfold inB; simp [h1, h2]
theorem inB_false {v lo hi : Int} (h : v < lo ∨ hi < v) : inB v lo hi = false := by unfold inB; simp; omega
theorem inB_iff {v lo hi : Int} : inB v lo hi = true ↔ lo ≤ v ∧ v ≤ hi := by unfold inB; simp

theorem in01_any (v lo hi : Int) (w : World) : Calls Tryz.prog 31 #[.int .i64 v, .int .i64 lo, .int .i64 hi] w fun e w' => e = .returned (.bool (inB v lo hi)) ∧ w = w' := by
  go_enter Tryz.func31, Tryz.ntmps31
  go_wp2
  all_goals (go_ret; refine ⟨ret_bool ?_, rfl⟩; unfold inB; rw [Bool.eq_iff_iff]; simp) <;> omega
theorem in07_any (v lo hi : Int) (w : World) : Calls Tryz.prog 162 #[.int .i64 v, .int .i64 lo, .int .i64 hi] w fun e w' => e = .returned (.bool (inB v lo hi)) ∧ w = w' := by
  go_enter Tryz.func162, Tryz.ntmps162
  go_wp2
  all_goals (go_ret; refine ⟨ret_bool ?_, rfl⟩; unfold inB; rw [Bool.eq_iff_iff]; simp) <;> omega
theorem within_any (v lo hi : Int) (w : World) : Calls Tryz.prog 168 #[.int .i64 v, .int .i64 lo, .int .i64 hi] w fun e w' => e = .returned (.bool (inB v lo hi)) ∧ w = w' := by
  go_enter Tryz.func168, Tryz.ntmps168
  go_wp2
  all_goals (go_ret; refine ⟨ret_bool ?_, rfl⟩; unfold inB; rw [Bool.eq_iff_iff]; simp) <;> omega

set_option maxRecDepth 100000 in
theorem port01_any (v : Value) (g : Graph) (i : Nat) (u : Int) (w : World) (h : GraphV w v g) (hi : i < g.ports.length) :
    Calls Tryz.prog 119 #[v, .int .i64 i, .int .i64 u] w fun e w' => e = .returned (.int .i64 (portF g.ports[i] u)) ∧ Bel w w' := by
  obtain ⟨A, k, A2, k2, rfl, _, _, _, hr, _, hm⟩ := h
  obtain ⟨b, o, R, c1, rfl, hb, hc1, hL, hn, hm2⟩ := hr.at_ i hi
  have H := Lib.hid hL; clear hL hr
  unfold maxLen at hm hm2
  go_enter Tryz.func119, Tryz.ntmps119
  go_wp2
  go_loopg [7] g.ports[i].length (fun m x wr => ∃ j : Nat, j ≤ g.ports[i].length ∧ m = g.ports[i].length - j ∧ Hid ((g.ports[i].take j).all (fun l => !(l.to == u)) = true) ∧ x = .int .i64 j ∧ w.alloc (.cells #[.slice A g.ids.length k, .slice (some ⟨b, o, none⟩) g.ports.length k2] 30) = wr)
  case atStart => exact ⟨0, by omega, rfl, rfl, rfl, rfl⟩
  case round =>
    obtain ⟨j, hj, rfl, HK, rfl, rfl⟩ := hrel
    by_cases hlt : j < g.ports[i].length
    · obtain ⟨b', o', rfl, hb', hl1, hl2⟩ := H.out.at_ j hlt
      by_cases he : (g.ports[i][j].to == u) = true
      · go_wp2
        go_ret
        exact ⟨ret_int (portF_found hlt HK.out he).symm, (Bel.refl _).alloc _⟩
      · have he' : (g.ports[i][j].to == u) = false := by simpa using he
        clear he
        go_wp2
        go_roundg (g.ports[i].length - (j + 1))
        case rel => exact ⟨j + 1, by omega, rfl, all_take_succ hlt HK.out (by simp [he']), by go_num, rfl⟩
        case measure => omega
    · go_wp2
      go_ret
      exact ⟨ret_int (portF_none (all_of_take (by omega) HK.out)).symm, (Bel.refl _).alloc _⟩

set_option maxRecDepth 100000 in
theorem portTo_any (v : Value) (g : Graph) (i : Nat) (u : Int) (w : World) (h : GraphV w v g) (hi : i < g.ports.length) :
    Calls Tryz.prog 53 #[v, .int .i64 i, .int .i64 u] w fun e w' => e = .returned (.int .i64 (portF g.ports[i] u)) ∧ Bel w w' := by
  obtain ⟨A, k, A2, k2, rfl, _, _, _, hr, _, hm⟩ := h
  obtain ⟨b, o, R, c1, rfl, hb, hc1, hL, hn, hm2⟩ := hr.at_ i hi
  have H := Lib.hid (fun w' (k : Bel w w') => LinksR.keep hL k); clear hL hr
  unfold maxLen at hm hm2
  go_enter Tryz.func53, Tryz.ntmps53
  go_wp2
  go_loopg [7, 8, 15] g.ports[i].length (fun m _x _y z wr => ∃ j : Nat, j ≤ g.ports[i].length ∧ m = g.ports[i].length - j ∧ Hid ((g.ports[i].take j).all (fun l => !(l.to == u)) = true) ∧ z = .int .i64 j ∧ Bel w wr)
  case atStart => exact ⟨0, by omega, rfl, rfl, rfl, (Bel.refl w).alloc _⟩
  case round =>
    obtain ⟨j, hj, rfl, HK, rfl, HB⟩ := hrel
    by_cases hlt : j < g.ports[i].length
    · obtain ⟨b', o', rfl, hb', hl1, hl2⟩ := (H.out _ HB).at_ j hlt
      have HB2 := HB.alloc (.cells #[.int .i64 g.ports[i][j].to, .int .i64 g.ports[i][j].weight] 62)
      by_cases he : (g.ports[i][j].to == u) = true
      · go_wp2
        go_ret
        exact ⟨ret_int (portF_found hlt HK.out he).symm, HB2⟩
      · have he' : (g.ports[i][j].to == u) = false := by simpa using he
        clear he
        go_wp2
        go_roundg (g.ports[i].length - (j + 1))
        case rel => exact ⟨j + 1, by omega, rfl, all_take_succ hlt HK.out (by simp [he']), by go_num, HB2⟩
        case measure => omega
    · go_wp2
      go_ret
      exact ⟨ret_int (portF_none (all_of_take (by omega) HK.out)).symm, HB⟩


end Go.Proofs.YtaifafljakojnaaGreat

