/- Merged of: Copy (see NOTES.md). -/
import Derived.Test.YtibfjhhadbkkgaaGreatZ01
import Derived.Laws.CopyOwn
set_option linter.unusedSimpArgs false
set_option linter.unnecessarySimpa false
set_option linter.unusedVariables false

/- copy into a row of the call's own, from a slice of the same length. -/
namespace Go.Proofs.YtibfjhhadbkkgaaGreat
open Go.RowKit

section
variable {P : Program} (w : World)
theorem run_copy_same (base : Nat) (t ty e : TypeId) (i : TypeInfo) (size : Nat) (ht : P.underlying t = some (.slice e)) (hi : P.info? e = some i) (hsize : i.size = size) (hsz : 0 < size)
    (A : Option Addr) (n c : Nat) (xs : List Value) (hown : w.ownsRow base e size (.slice A n c) n xs)
    (A2 : Option Addr) (c2 : Nat) (news : List Value) (hr : CellsR w size A2 n news) (h1 : ∀ u ∈ news, u.oneCell' = true) :
    ∃ w', (Builtin.copy_ #[t, t] ty #[.slice A n c, .slice A2 n c2]).run P w = .ok (.int .i64 n) w' ∧ w'.ownsRow base e size (.slice A n c) n news ∧ w.grownBy w' (Value.slice A n c).ownBlock := by
  rcases Nat.eq_zero_or_pos n with h0 | h0
  · subst h0
    have hn : news = [] := List.eq_nil_of_length_eq_zero (by simpa using hr.1)
    subst hn
    have hx : xs = [] := List.eq_nil_of_length_eq_zero (by simpa using hown.1)
    subst hx
    refine ⟨w, ?_, hown, World.grownBy.refl w _⟩
    cases A <;> cases A2 <;> simp [Builtin.copy_, run_underlying ht, Builtin.lenOf, Builtin.firstCells, sizeOf, typeInfo, hi, storeCells, loadCells, loadCellsFrom, goInt]
  · have hpos : 0 < news.length := by rw [hr.1]; exact Nat.mul_pos h0 hsz
    obtain ⟨b, o, rfl, _⟩ := hr.2 0 news[0] (List.getElem?_eq_getElem hpos)
    have hcells : ∀ j u, news[j]? = some u → w.cell? ((⟨b, o, none⟩ : Addr).add j) = some u := by
      intro j u hu
      obtain ⟨b', o', he, hc⟩ := hr.2 j u hu
      injection he with he
      injection he with h1 h2
      subst h1; subst h2
      rw [addr_add]; exact hc
    rcases hown.2 with ⟨_, hn0⟩ | ⟨g, cap, cur, hv, hb, hg, hnc, hcm, hcs, htk⟩
    · omega
    · injection hv with hA _ hcc
      subst hA; subst hcc
      have hfit : 0 + 0 + news.length ≤ cur.size := by rw [hr.1, hcs]; have := Nat.mul_le_mul_right size hnc; omega
      have hl := run_loadCells_list (P := P) w ⟨b, o, none⟩ news hcells
      have hst := run_storeCells_at P g 0 e news 0 cur w hg hfit h1
      refine ⟨w.setRow g (cur.toList.take (0 + 0) ++ news ++ cur.toList.drop (0 + 0 + news.length)).toArray, ?_, ?_, ?_⟩
      · simp only [Builtin.copy_, run_underlying ht, Builtin.lenOf, Builtin.firstCells, sizeOf, typeInfo]
        simp [run_underlying ht, hi, hsize, ← hr.1, hl, hst, goInt]
      · refine ⟨hr.1, .inr ⟨g, c, _, rfl, hb, setRow_heap w g cur _ e _ hg, hnc, hcm, ?_, ?_⟩⟩
        · simp; omega
        · simp [← hr.1]
      · exact ⟨rfl, rfl, rfl, by simp [World.setRow], fun k hk hne => by
          have : k ≠ g := by rintro rfl; exact hne rfl
          simp [World.setRow, Array.getElem?_modify]
          intro h; exact absurd h.symm this⟩

theorem wpList_copy_same {ops : Array Oper} {rest : List Oper} {o : Oper} {a : Act} {Q : Exit → Act → World → Prop} (hgd : o.guard = none) (d s : Operand) (t : TypeId)
    (ho : o.op = .call { callee := .builtin .copy, args := #[d, s], argTypes := #[t, t] })
    (base : Nat) (e : TypeId) (i : TypeInfo) (size : Nat) (ht : P.underlying t = some (.slice e)) (hi : P.info? e = some i) (hsize : i.size = size) (hsz : 0 < size)
    (A : Option Addr) (n c : Nat) (xs : List Value) (hd : a.eval d = .slice A n c) (hown : w.ownsRow base e size (.slice A n c) n xs)
    (A2 : Option Addr) (c2 : Nat) (news : List Value) (hs : a.eval s = .slice A2 n c2) (hr : CellsR w size A2 n news) (h1 : ∀ u ∈ news, u.oneCell' = true)
    (h : ∀ w', w'.ownsRow base e size (.slice A n c) n news → w.grownBy w' (Value.slice A n c).ownBlock → wpList P ops Q rest (a.put o.dst (.int .i64 n)) w') : wpList P ops Q (o :: rest) a w := by
  refine wpList_plain hgd fun K hK => ?_
  obtain ⟨w', hrun, h2, h3⟩ := run_copy_same (P := P) w base t o.type e i size ht hi hsize hsz A n c xs hown A2 c2 news hr h1
  unfold Oper.wp
  simp only [execOp, ho, resolve, invoke, builtin, Sem.run_bind, Sem.run_pure, Result.andThen_ok, List.map_toArray, List.map_cons, List.map_nil, hd, hs, hrun]
  exact hK _ _ (h w' h2 h3)
end
end Go.Proofs.YtibfjhhadbkkgaaGreat

