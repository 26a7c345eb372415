/- Merged of: P13j (see NOTES.md). -/
import Derived.Test.YtaifafljakojnaaGreatZ20
import Derived.Test.YtaifafljakojnaaGreatZ19
import Derived.Test.YtaifafljakojnaaGreatZ24
set_option linter.unusedSimpArgs false
set_option linter.unnecessarySimpa false
set_option linter.unusedVariables false

/- The code of a typed expression: plain. -/
namespace Go.Proofs.YtaifafljakojnaaGreat

theorem inside_bound {x : Ex} : ∀ {b : Bool}, boundOK b x → x.inside b := by
  induction x with
  | leaf t =>
    intro b h hn
    refine h ?_
    unfold nearT at hn
    unfold nearOp
    simp at hn ⊢
    omega
  | un t a ih => intro b h; show a.inside (aggregate t.op || b); rw [Bool.or_comm]; exact ih h
  | bin t x y ihx ihy => intro b h; exact ⟨ihx h.1, ihy h.2⟩
  | tri t x y z ihx ihy ihz => intro b h; exact ⟨ihx h.1, ihy h.2.1, ihz h.2.2⟩
theorem argF_six {t : Term} {k : Nat} (hk : k ≤ 6) (h : argF t k = true) : argF t 6 = true := by
  unfold argF at h ⊢
  split at h
  · rename_i e; rw [if_pos e]; exact h
  · rename_i e
    rw [if_neg e]
    split at h
    · rename_i e2; rw [if_pos e2]; simp at h ⊢; omega
    · rename_i e2; rw [if_neg e2]; exact h
theorem valid_six {es : List Term} {k : Nat} (hk : k ≤ 6) (h : validF es k = true) : validF es 6 = true := by
  unfold validF at h ⊢
  simp only [Bool.and_eq_true, List.all_eq_true] at h ⊢
  grind [argF_six]
theorem valueF_node13 {p : Prg} {g : Graph} {c : Config} {q : Nat} {es : List Term} (hm : memF p g c = 0) (hq : q < c.length) (ho : (ofF es (kindsF p) false).2 = 0) : valueF p g c (q : Int) es = (evalF g c q (-1) (treeOf es), 0) := by
  unfold valueF
  rw [if_neg (by simpa using hm), if_neg (by omega), if_neg (by simpa using ho), Int.toNat_natCast]
/-- What Compile returns for a typed expression, and how it runs. -/
theorem agrees_plain {p : Prg} {g : Graph} {c : Config} {q : Nat} {es is : List Term} {err : Int} (hm : memF p g c = 0) (hq : q < c.length) (ho : (ofF es (kindsF p) false).2 = 0) (h : codeF es (is, err)) :
    err = 0 ∧ is.length ≤ 1024 ∧ ∃ n : Nat, 1 ≤ n ∧ runF p g c (q : Int) is = (evalF g c q (-1) (treeOf es), (n : Int), 0) := by
  obtain ⟨h1, h2, _⟩ := ofF_ok ho
  have hk : (kindsF p).length ≤ 6 := by
    unfold ofF at ho
    split at ho
    · simp at ho
    · omega
  have hkl : (kindsF p).length = p.vars.length := by simp [kindsF]
  have h6 := valid_six hk h1
  rcases h with ⟨hv, _⟩ | ⟨_, x, hx1, hx2, he⟩
  · rw [h6] at hv; cases hv
  · simp only [Prod.mk.injEq] at he
    obtain ⟨rfl, rfl⟩ := he
    obtain ⟨t1, t2, t3, t4, t5, t6⟩ := valid_treeOf h1
    have hxt := treeOf_eq hx1 hx2
    rw [hxt] at t5 t6 h2 ⊢
    have hsz : x.size ≤ 1024 := by
      have := x.size_le
      have e2 : x.len = es.length := by rw [← hx2]; rfl
      omega
    obtain ⟨hh, hver, _, _⟩ := verify_code (x := x) (v := (p.vars.length : Int)) (by omega) hx1 (by rw [hx2, ← hkl]; exact t4) (inside_bound (kind_bound h2)) t6 t5 hsz
    exact ⟨rfl, by rw [x.code_length]; exact hsz, runF_code hm hq (by rw [hver])⟩

end Go.Proofs.YtaifafljakojnaaGreat

