/- Merged of: WMb PE PEb WEa (see NOTES.md). -/
import Derived.Test.YtibfjhhadbkkgaaGreatZ14
import Derived.Test.YtibfjhhadbkkgaaGreatZ03
set_option linter.unusedSimpArgs false
set_option linter.unnecessarySimpa false
set_option linter.unusedVariables false

/- Contracts: the reference's Check and Valid of configurations. -/
namespace Go.Proofs.YtibfjhhadbkkgaaGreat
open Go.RowKit

theorem tableF_length (p : Prg) (g : Graph) : (tableF p g).length = g.ids.length := by simp [tableF]
theorem tableF_at {p : Prg} {g : Graph} {v : Nat} (h : v < (tableF p g).length) : (tableF p g)[v] = rowF p g v := by simp [tableF]
theorem rowF_length (p : Prg) (g : Graph) (v : Nat) : (rowF p g v).length = p.vars.length := by simp [rowF]
theorem rowF_at {p : Prg} {g : Graph} {v i : Nat} (h : i < (rowF p g v).length) : (rowF p g v)[i] = boundsF (p.vars[i]'(by rw [rowF_length] at h; exact h)) g v := by simp [rowF]

set_option maxRecDepth 100000 in
set_option maxHeartbeats 4000000 in
theorem refMemCheck_any (v : Value) (p : Prg) (v2 : Value) (g : Graph) (v3 : Value) (c : Config) (w : World) (h : PrgV w v p) (h2 : GraphV w v2 g) (h3 : ConfV w v3 c) (hL : lightP p = true) (hG : lightG g = true) (hC : lightC c = true) :
    Calls Tryz.prog 46 #[v, v2, v3] w fun e w' => e = .returned (.int .i64 (memF p g c)) ∧ Bel w w' := by
  have HPV := Lib.hid (fun w' (k : Bel w w') => h.keep k)
  have HGV := Lib.hid (fun w' (k : Bel w w') => h2.keep k)
  obtain ⟨A, k, A2, k2, rfl, _, _, _, _, _, _⟩ := h
  obtain ⟨A3, k3, A4, k4, rfl, _, _, _, _, _, _⟩ := h2
  obtain ⟨A5, k5, rfl, hCR, _, _⟩ := h3
  have HCR := Lib.hid (fun w' (k : Bel w w') => RowsR.keep hCR k); clear hCR
  have HL := Lib.hid hL
  have HGL := Lib.hid hG
  obtain ⟨l1, l2⟩ := lightC_parts hC
  have HL2 := Lib.hid l2
  clear hL hG hC l2
  have HW := Bel.refl ((w.alloc (.cells #[.string p.name, .slice A p.vars.length k, .slice A2 p.rules.length k2] 25)).alloc (.cells #[.slice A3 g.ids.length k3, .slice A4 g.ports.length k4] 29))
  by_cases hf : fitsF p g = 0
  · obtain ⟨f1, f2, _⟩ := fits_zero hf
    have HF1 := Lib.hid (check_numbers f1)
    have HF2 := Lib.hid f2
    have HFZ := Lib.hid hf
    have HM : Hid (memF p g c = if confB (tableF p g) c = false then 10 else 0) := by show memF p g c = _; unfold memF; rw [if_neg (by simpa using hf)]
    have HTL : Hid ((tableF p g).length = g.ports.length) := by show (tableF p g).length = _; rw [tableF_length, f2.ids]
    clear hf f1 f2
    have hv6 := HF1.out.2.2.1
    by_cases hn : c.length = g.ports.length
    · have hb : (c.length != c.length) = false := by simp
      have HN := Lib.hid hn
      rw [← hn] at HGV HW ⊢
      clear hn
      go_enter Tryz.func46, Tryz.ntmps46
      go_wp2_with (go_at_call 81; refine (refFits_any _ p _ g _ (HPV.out _ (box2_bel HW)) (HGV.out _ (box2_bel HW)) HL.out HGL.out).mono ?_; rintro e w' ⟨rfl, hb⟩; rw [HFZ.out]; replace HW := HW.trans hb; clear hb; obtain ⟨p0, p1, p2, g0, g1, gsz⟩ := pgbox HW)
      clear hb p0 p1 p2 g0 g1 gsz
      go_loopg [8, 9, 10, 11] c.length (fun m z _y _x _u wr => ∃ j : Nat, j ≤ c.length ∧ m = c.length - j ∧ z = .int .i64 j ∧ Hid (∀ i, i < j → (h1 : i < c.length) → stateB (rowF p g i) c[i] = true) ∧ Bel ((w.alloc (.cells #[.string p.name, .slice A p.vars.length k, .slice A2 p.rules.length k2] 25)).alloc (.cells #[.slice A3 g.ids.length k3, .slice A4 c.length k4] 29)) wr)
      case atStart => exact ⟨0, by omega, rfl, rfl, fun i hi => absurd hi (by omega), HW⟩
      case round =>
        clear HW
        obtain ⟨v, hv, rfl, rfl, HJ, HW⟩ := hrel
        obtain ⟨p0, p1, p2, g0, g1, gsz⟩ := pgbox HW
        by_cases hlt : v < c.length
        · have hd0 : decide (v < c.length) = true := by simpa using hlt
          have hvp : v < g.ports.length := by rw [← HN.out]; exact hlt
          obtain ⟨b, o, R, rc, rfl, hb, hc, hI, _, _⟩ := (HCR.out _ (box2_bel HW)).at_ v hlt
          have hrl := HL2.out _ (List.getElem_mem hlt)
          by_cases hnl : c[v].length = p.vars.length
          · have hb1 : (c[v].length != p.vars.length) = false := by simpa using hnl
            have hb2 : ((c[v].length : Int) != (p.vars.length : Int)) = false := by simp; omega
            have HNL := Lib.hid hnl
            clear hnl
            go_wp2_with fail
            go_quiet (fail)
            go_wp2_with fail
            clear hb1 hb2 p0 p1 p2 g0 g1 gsz hd0 hb hc hI
            go_loopg [9, 10, 11] c[v].length (fun m z _y _x ws => ∃ j : Nat, j ≤ c[v].length ∧ m = c[v].length - j ∧ z = .int .i64 j ∧ Hid (∀ i, i < j → (h1 : i < c[v].length) → (h2 : i < (rowF p g v).length) → (rowF p g v)[i].1 ≤ c[v][i] ∧ c[v][i] ≤ (rowF p g v)[i].2) ∧ Bel ((w.alloc (.cells #[.string p.name, .slice A p.vars.length k, .slice A2 p.rules.length k2] 25)).alloc (.cells #[.slice A3 g.ids.length k3, .slice A4 c.length k4] 29)) ws)
            case atStart => exact ⟨0, by omega, rfl, rfl, fun i hi => absurd hi (by omega), HW.drewN _⟩
            case round =>
              clear HW
              obtain ⟨j, hj, rfl, rfl, HQ, HW⟩ := hrel
              obtain ⟨p0, p1, p2, g0, g1, gsz⟩ := pgbox HW
              obtain ⟨b', o', R', rc', e', hb, hc, hI, _, _⟩ := (HCR.out _ (box2_bel HW)).at_ v hlt
              obtain ⟨rfl, rfl⟩ : b = b' ∧ o = o' := by simpa using e'
              clear e'
              by_cases hlt2 : j < c[v].length
              · have hd0 : decide (j < c[v].length) = true := by simpa using hlt2
                have hjv : j < p.vars.length := by rw [← HNL.out]; exact hlt2
                have hjr : j < (rowF p g v).length := by rw [rowF_length]; exact hjv
                have HRE := Lib.hid (rowF_at hjr)
                have HNX := Lib.hid (List.all_eq_true.1 HF1.out.1 _ (List.getElem_mem hjv))
                have hdv : decide (v < c.length) = true := by simpa using hlt
                go_wp2_with fail
                refine (ends_any _ p _ g v j _ (HPV.out _ (box2_bel HW)) (HGV.out _ (box2_bel HW)) hjv HNX.out HF2.out hvp HGL.out).mono ?_
                rintro e w' ⟨rfl, hbe⟩
                rw [← HRE.out]
                replace HW := HW.trans hbe
                clear hbe p0 p1 p2 g0 g1 gsz hb hc hI
                obtain ⟨p0, p1, p2, g0, g1, gsz⟩ := pgbox HW
                obtain ⟨b', o', R2, rc2, e', hb, hc, hI, _, _⟩ := (HCR.out _ (box2_bel HW)).at_ v hlt
                obtain ⟨rfl, rfl⟩ : b = b' ∧ o = o' := by simpa using e'
                clear e'
                obtain ⟨b3, o3, rfl, hb3, hc3⟩ := hI.at_ j hlt2
                by_cases hin : (rowF p g v)[j].1 ≤ c[v][j] ∧ c[v][j] ≤ (rowF p g v)[j].2
                · have d1 : inB c[v][j] (rowF p g v)[j].1 (rowF p g v)[j].2 = true := inB_true hin.1 hin.2
                  have HIN := Lib.hid hin; clear hin
                  go_wp2_with (go_at_call 69; refine (in01_any _ _ _ _).mono ?_; rintro e w' ⟨rfl, rfl⟩)
                  go_roundg (c[v].length - (j + 1))
                  case rel =>
                    refine ⟨j + 1, by omega, rfl, by go_num, ?_, HW⟩
                    intro i hi a1 a2
                    rcases Nat.lt_or_ge i j with h | h
                    · exact HQ.out i h a1 a2
                    · obtain rfl : i = j := by omega
                      exact HIN.out
                  case measure => omega
                · have d1 : inB c[v][j] (rowF p g v)[j].1 (rowF p g v)[j].2 = false := inB_false (by omega)
                  have HCF : Hid (confB (tableF p g) c = false) := confB_false fun hh => by
                    have h3 := hh.2 v hlt (by rw [HTL.out]; exact hvp)
                    rw [tableF_at] at h3
                    exact hin ((stateB_iff.1 h3).2 j hlt2 hjr)
                  rw [HCF.out, if_pos rfl] at HM
                  clear hin
                  go_wp2_with (go_at_call 69; refine (in01_any _ _ _ _).mono ?_; rintro e w' ⟨rfl, rfl⟩)
                  go_ret
                  exact ⟨ret_int HM.out.symm, box2_bel HW⟩
              · have hd0 : decide (j < c[v].length) = false := by simpa using hlt2
                have hdv : decide (v < c.length) = true := by simpa using hlt
                go_wp2_with fail
                go_roundg (c.length - (v + 1))
                case rel =>
                  refine ⟨v + 1, by omega, rfl, by go_num, ?_, HW⟩
                  intro i hi a1
                  rcases Nat.lt_or_ge i v with h | h
                  · exact HJ.out i h a1
                  · obtain rfl : i = v := by omega
                    rw [stateB_iff]
                    exact ⟨by rw [rowF_length, HNL.out], fun q b1 b2 => HQ.out q (by omega) b1 b2⟩
                case measure => omega
          · obtain ⟨n1, n2⟩ := nat_bne hnl
            have HCF : Hid (confB (tableF p g) c = false) := confB_false fun hh => by
              have h3 := hh.2 v hlt (by rw [HTL.out]; exact hvp)
              rw [tableF_at] at h3
              have := (stateB_iff.1 h3).1
              rw [rowF_length] at this
              exact hnl this
            rw [HCF.out, if_pos rfl] at HM
            clear hnl
            go_wp2_with fail
            go_quiet (fail)
            go_wp2_with fail
            go_ret
            exact ⟨ret_int HM.out.symm, (box2_bel HW).drewN _⟩
        · have hd0 : decide (v < c.length) = false := by simpa using hlt
          have HCF : Hid (confB (tableF p g) c = true) := by
            show confB (tableF p g) c = true
            rw [confB_iff]
            refine ⟨by rw [HTL.out, HN.out], fun i a1 a2 => ?_⟩
            rw [tableF_at]
            exact HJ.out i (by omega) a1
          rw [HCF.out, if_neg (by decide)] at HM
          go_wp2_with fail
          go_ret
          exact ⟨ret_int HM.out.symm, box2_bel HW⟩
    · obtain ⟨n1, n2⟩ := nat_bne hn
      have HCF : Hid (confB (tableF p g) c = false) := confB_false fun hh => hn (by rw [hh.1, HTL.out])
      rw [HCF.out, if_pos rfl] at HM
      clear hn
      go_enter Tryz.func46, Tryz.ntmps46
      go_wp2_with (go_at_call 81; refine (refFits_any _ p _ g _ (HPV.out _ (box2_bel HW)) (HGV.out _ (box2_bel HW)) HL.out HGL.out).mono ?_; rintro e w' ⟨rfl, hb⟩; rw [HFZ.out]; replace HW := HW.trans hb; clear hb; obtain ⟨p0, p1, p2, g0, g1, gsz⟩ := pgbox HW)
      go_ret
      exact ⟨ret_int HM.out.symm, box2_bel HW⟩
  · have HM : Hid (memF p g c = fitsF p g) := by show memF p g c = _; unfold memF; rw [if_pos hf]
    have hfb : (fitsF p g != 0) = true := by simpa using hf
    go_enter Tryz.func46, Tryz.ntmps46
    go_wp2_with (go_at_call 81; refine (refFits_any _ p _ g _ (HPV.out _ (box2_bel HW)) (HGV.out _ (box2_bel HW)) HL.out HGL.out).mono ?_; rintro e w' ⟨rfl, hb⟩; replace HW := HW.trans hb; clear hb)
    go_ret
    exact ⟨ret_int HM.out.symm, box2_bel HW⟩

theorem refMemValid_any (v : Value) (p : Prg) (v2 : Value) (g : Graph) (v3 : Value) (c : Config) (w : World) (h : PrgV w v p) (h2 : GraphV w v2 g) (h3 : ConfV w v3 c) (hL : lightP p = true) (hG : lightG g = true) (hC : lightC c = true) :
    Calls Tryz.prog 16 #[v, v2, v3] w fun e w' => e = .returned (.bool (decide (memF p g c = 0))) ∧ Bel w w' := by
  have HPV := Lib.hid (fun w' (k : Bel w w') => h.keep k)
  have HGV := Lib.hid (fun w' (k : Bel w w') => h2.keep k)
  have HCV := Lib.hid (fun w' (k : Bel w w') => h3.keep k)
  obtain ⟨A, k, A2, k2, rfl, _, _, _, _, _, _⟩ := h
  obtain ⟨A3, k3, A4, k4, rfl, _, _, _, _, _, _⟩ := h2
  obtain ⟨A5, k5, rfl, _, _, _⟩ := h3
  have HW := Bel.refl ((w.alloc (.cells #[.string p.name, .slice A p.vars.length k, .slice A2 p.rules.length k2] 25)).alloc (.cells #[.slice A3 g.ids.length k3, .slice A4 g.ports.length k4] 29))
  go_enter Tryz.func16, Tryz.ntmps16
  go_wp2_with (go_at_call 46; refine (refMemCheck_any _ p _ g _ c _ (HPV.out _ (box2_bel HW)) (HGV.out _ (box2_bel HW)) (HCV.out _ (box2_bel HW)) hL hG hC).mono ?_; rintro e w' ⟨rfl, hb⟩; replace HW := HW.trans hb; clear hb)
  go_ret
  exact ⟨ret_bool (by rw [Bool.eq_iff_iff]; simp), box2_bel HW⟩

end Go.Proofs.YtibfjhhadbkkgaaGreat

/- The plain form of evaluation, and that its values are numbers of the rule language. -/
namespace Go.Proofs.YtibfjhhadbkkgaaGreat

def linkF (g : Graph) (v : Nat) (port : Int) : Link := (g.ports.getD v []).getD port.toNat default
def factF (g : Graph) (op : Int) (v : Nat) (port : Int) : Int :=
  if op = 6 then g.ids.length else if op = 7 then gmax g.ids else if op = 8 then g.ids.getD v 0 else if op = 9 then (g.ports.getD v []).length
  else if op = 10 then truthI (decide (v = 0)) else if op = 11 then port
  else if op = 13 then g.ids.getD (linkF g v port).to.toNat 0
  else if op = 14 then (g.ports.getD (linkF g v port).to.toNat []).length
  else if op = 15 then truthI (decide ((linkF g v port).to = 0))
  else if op = 16 then (linkF g v port).weight
  else portF (g.ports.getD (linkF g v port).to.toNat []) v
def leafF (g : Graph) (c : Config) (v : Nat) (port : Int) (t : Term) : Int :=
  if t.op = 1 then t.arg else if t.op = 2 then 1 else if t.op = 3 then 0 else if t.op = 4 then -1
  else if t.op = 5 then (c.getD v []).getD t.arg.toNat 0
  else if t.op = 12 then (c.getD (linkF g v port).to.toNat []).getD t.arg.toNat 0
  else factF g t.op v port
def evalF (g : Graph) (c : Config) (v : Nat) : Int → Ex → Int
  | port, .leaf t => leafF g c v port t
  | port, .un t a => if aggregate t.op then foldF t.op ((List.range (g.ports.getD v []).length).map fun (k : Nat) => evalF g c v (k : Int) a) else unaryF t.op (evalF g c v port a)
  | port, .bin t a b => binaryF t.op (evalF g c v port a) (evalF g c v port b)
  | port, .tri _ a b d => if evalF g c v port a ≠ 0 then evalF g c v port b else evalF g c v port d

def boundOK : Bool → Ex → Prop
  | b, .leaf t => nearOp t.op = true → b = true
  | b, .un t a => boundOK (b || aggregate t.op) a
  | b, .bin _ x y => boundOK b x ∧ boundOK b y
  | b, .tri _ x y z => boundOK b x ∧ boundOK b y ∧ boundOK b z
theorem ifK_ne {b : Bool} {k : Int} (h : ifK b k ≠ 0) : b = true ∧ k ≠ 0 := by
  unfold ifK at h
  cases b
  · exact absurd rfl h
  · exact ⟨rfl, h⟩
theorem singleK_ne {op a : Int} (h : singleK op a ≠ 0) : a ≠ 0 := by
  unfold singleK at h
  rintro rfl
  repeat' split at h
  all_goals exact h rfl
theorem doubleK_ne {op a b : Int} (h : doubleK op a b ≠ 0) : a ≠ 0 ∧ b ≠ 0 := by
  unfold doubleK at h
  repeat' split at h
  all_goals
    have := (ifK_ne h).1
    simp at this
    omega
theorem kind_bound {kinds : List Int} {x : Ex} : ∀ {b : Bool}, kindF kinds b x ≠ 0 → boundOK b x := by
  induction x with
  | leaf t =>
    intro b h hn
    simp only [kindF] at h
    cases b
    · rw [hn] at h; exact absurd rfl h
    · rfl
  | un t a ih => intro b h; exact ih (singleK_ne h)
  | bin t x y ihx ihy => intro b h; obtain ⟨h1, h2⟩ := doubleK_ne h; exact ⟨ihx h1, ihy h2⟩
  | tri t x y z ihx ihy ihz =>
    intro b h
    obtain ⟨h1, h2⟩ := ifK_ne h
    simp at h1
    refine ⟨ihx (by omega), ihy h2, ihz ?_⟩
    rw [← h1.2]; exact h2

theorem firstGo_range (l : List Int) : ∀ i : Int, firstGo l i = -1 ∨ (i ≤ firstGo l i ∧ firstGo l i < i + l.length) := by
  induction l with
  | nil => intro i; left; rfl
  | cons a l ih =>
    intro i
    simp only [firstGo]
    split
    · right; simp; omega
    · rcases ih (i + 1) with h | h
      · left; exact h
      · right; simp; omega
theorem foldl_min_num (l : List Int) : ∀ z : Int, Num z → (∀ x ∈ l, Num x) → Num (l.foldl min z) := by
  induction l with
  | nil => intro z hz _; exact hz
  | cons a l ih =>
    intro z hz h
    refine ih _ ?_ (fun x hx => h x (by simp [hx]))
    have := h a (by simp)
    unfold Num at *
    omega
theorem twoGo_num (l : List Int) : ∀ a b : Int, Num a → Num b → (∀ x ∈ l, Num x) → Num (twoGo l a b).1 ∧ Num (twoGo l a b).2 := by
  induction l with
  | nil => intro a b ha hb _; exact ⟨ha, hb⟩
  | cons x l ih =>
    intro a b ha hb h
    have hx := h x (by simp)
    have hr : ∀ y ∈ l, Num y := fun y hy => h y (by simp [hy])
    simp only [twoGo]
    split
    · exact ih _ _ hx ha hr
    · refine ih _ _ ha ?_ hr
      unfold Num at *
      omega
theorem foldF_num {op : Int} {l : List Int} (hn : ∀ x ∈ l, Num x) (hl : l.length ≤ 1000) : Num (foldF op l) := by
  unfold foldF
  split
  · exact truthI_num _
  split
  · exact truthI_num _
  split
  · have := countF_le l; unfold Num; omega
  split
  · have := firstGo_range l 0; unfold Num; omega
  split
  · exact foldl_min_num l _ (by unfold Num; omega) hn
  split
  · exact (twoGo_num l _ _ (by unfold Num; omega) (by unfold Num; omega) hn).1
  split
  · exact satF_num _
  split
  · have h1 := mexGo_eq l (cntGe l 0) 0 (Nat.le_refl _)
    have h2 := cntGe_le l 0
    unfold mexF Num
    omega
  split
  · exact (twoGo_num l _ _ (by unfold Num; omega) (by unfold Num; omega) hn).2
  · cases l with
    | nil => unfold Num; simp
    | cons a l => exact hn a (by simp)
theorem unaryF_num {op a : Int} (h : Num a) : Num (unaryF op a) := by
  unfold unaryF
  split
  · unfold Num at *; omega
  · exact truthI_num _
theorem binaryF_num {op a b : Int} : Num (binaryF op a b) := satF_num _

/-- A configuration on a graph that it fits, and a node. -/
structure SOK (p : Prg) (g : Graph) (c : Config) (v : Nat) : Prop where
  fits : fitsF p g = 0
  conf : confB (tableF p g) c = true
  node : v < g.ports.length
theorem SOK.gok {p : Prg} {g : Graph} {c : Config} {v : Nat} (h : SOK p g c v) : GOK g := (fits_zero h.fits).2.1
theorem SOK.len {p : Prg} {g : Graph} {c : Config} {v : Nat} (h : SOK p g c v) : c.length = g.ports.length := by
  rw [(confB_iff.1 h.conf).1, tableF_length, h.gok.ids]
theorem SOK.row {p : Prg} {g : Graph} {c : Config} {v : Nat} (h : SOK p g c v) {u : Nat} (hu : u < g.ports.length) : (c[u]'(by rw [h.len]; exact hu)).length = p.vars.length := by
  have := (confB_iff.1 h.conf).2 u (by rw [h.len]; exact hu) (by rw [tableF_length, h.gok.ids]; exact hu)
  rw [tableF_at] at this
  have := (stateB_iff.1 this).1
  rwa [rowF_length] at this
theorem SOK.val {p : Prg} {g : Graph} {c : Config} {v : Nat} (h : SOK p g c v) {u i : Nat} (hu : u < g.ports.length) (hi : i < p.vars.length) :
    (boundsF p.vars[i] g u).1 ≤ (c[u]'(by rw [h.len]; exact hu))[i]'(by rw [h.row hu]; exact hi) ∧ (c[u]'(by rw [h.len]; exact hu))[i]'(by rw [h.row hu]; exact hi) ≤ (boundsF p.vars[i] g u).2 := by
  have h1 := (confB_iff.1 h.conf).2 u (by rw [h.len]; exact hu) (by rw [tableF_length, h.gok.ids]; exact hu)
  rw [tableF_at] at h1
  have := (stateB_iff.1 h1).2 i (by rw [h.row hu]; exact hi) (by rw [rowF_length]; exact hi)
  rwa [rowF_at] at this
theorem SOK.small {p : Prg} {g : Graph} {c : Config} {v : Nat} (h : SOK p g c v) {u i : Nat} (hu : u < g.ports.length) (hi : i < p.vars.length) : Num ((c.getD u []).getD i 0) := by
  have h1 := h.val hu hi
  have h2 := bounds_small (List.all_eq_true.1 (check_numbers (fits_zero h.fits).1).1 _ (List.getElem_mem hi)) h.gok hu
  have e1 : c.getD u [] = c[u]'(by rw [h.len]; exact hu) := getD_eq (by rw [h.len]; exact hu)
  rw [e1, getD_eq (by rw [h.row hu]; exact hi)]
  unfold Num
  omega
/-- The link at a port of a node. -/
theorem link_at {g : Graph} (hg : GOK g) {v k : Nat} (hv : v < g.ports.length) (hk : k < g.ports[v].length) :
    linkF g v (k : Int) = g.ports[v][k] ∧ ∃ t : Nat, g.ports[v][k].to = (t : Int) ∧ t < g.ports.length ∧ 1 ≤ g.ports[v][k].weight ∧ g.ports[v][k].weight ≤ 15 ∧ g.ports[v].length < g.ports.length := by
  have h1 := hg.links v hv
  obtain ⟨a1, a2, a3, a4, a5⟩ := linkOK_iff.1 ((linksOK_iff.1 h1).1 _ (List.getElem_mem hk))
  obtain ⟨t, ht⟩ := Int.eq_ofNat_of_zero_le a1
  refine ⟨?_, t, ht, by omega, a4, a5, linksOK_len hv h1⟩
  unfold linkF
  rw [getD_eq hv, Int.toNat_natCast, getD_eq hk]
def portOK (g : Graph) (v : Nat) (b : Bool) (port : Int) : Prop := b = true → ∃ k : Nat, port = (k : Int) ∧ k < (g.ports.getD v []).length
theorem getD_mem_or {l : List Int} {k : Nat} {P : Int → Prop} (h0 : P 0) (h : ∀ x ∈ l, P x) : P (l.getD k 0) := by
  rw [List.getD_eq_getElem?_getD]
  cases hx : l[k]? with
  | none => exact h0
  | some x => exact h x (List.mem_of_getElem? hx)
theorem fact_num {g : Graph} (hg : GOK g) {op : Int} {v : Nat} {port : Int} {b : Bool} (hv : v < g.ports.length) (hop : 6 ≤ op ∧ op ≤ 17 ∧ op ≠ 12) (hb : nearOp op = true → b = true) (hp : portOK g v b port) : Num (factF g op v port) := by
  have hle := hg.le
  have hids := hg.ids
  obtain ⟨g1, g2⟩ := gmax_le255 hg
  have hid : ∀ k, Num (g.ids.getD k 0) := fun k => getD_mem_or (P := Num) (by unfold Num; omega) (fun x hx => by have := hg.idr x hx; unfold Num; omega)
  have hlen : ∀ u, (g.ports.getD u []).length ≤ 24 := fun u => by
    rcases Nat.lt_or_ge u g.ports.length with h | h
    · rw [getD_eq h]; have := linksOK_len h (hg.links u h); omega
    · rw [List.getD_eq_getElem?_getD, List.getElem?_eq_none h]; simp
  by_cases hn : 11 ≤ op
  · have hnear : nearOp op = true := by unfold nearOp; simp; omega
    obtain ⟨k, rfl, hk⟩ := hp (hb hnear)
    rw [getD_eq hv] at hk
    obtain ⟨e, t, ht, htl, w1, w2, hl⟩ := link_at hg hv hk
    have hr := portF_range (g.ports.getD t []) (v : Int)
    have := hlen t
    have hlv := hlen v
    unfold factF
    rw [e, ht, Int.toNat_natCast]
    generalize g.ports[v][k].weight = wt at *
    generalize (g.ports.getD t []).length = len at *
    generalize portF (g.ports.getD t []) (v : Int) = pf at *
    generalize (g.ports.getD v []).length = lv at *
    generalize gmax g.ids = gm at *
    have n0 : Num (g.ids.length : Int) := by unfold Num; omega
    have n1 : Num gm := by unfold Num; omega
    have n2 : Num (lv : Int) := by unfold Num; omega
    have n3 : Num (k : Int) := by unfold Num; omega
    have n4 : Num (len : Int) := by unfold Num; omega
    have n5 : Num wt := by unfold Num; omega
    have n6 : Num pf := by unfold Num; omega
    by_cases c1 : op = 6
    · rw [if_pos c1]; exact n0
    rw [if_neg c1]
    by_cases c2 : op = 7
    · rw [if_pos c2]; exact n1
    rw [if_neg c2]
    by_cases c3 : op = 8
    · rw [if_pos c3]; exact hid _
    rw [if_neg c3]
    by_cases c4 : op = 9
    · rw [if_pos c4]; exact n2
    rw [if_neg c4]
    by_cases c5 : op = 10
    · rw [if_pos c5]; exact truthI_num _
    rw [if_neg c5]
    by_cases c6 : op = 11
    · rw [if_pos c6]; exact n3
    rw [if_neg c6]
    by_cases c7 : op = 13
    · rw [if_pos c7]; exact hid _
    rw [if_neg c7]
    by_cases c8 : op = 14
    · rw [if_pos c8]; exact n4
    rw [if_neg c8]
    by_cases c9 : op = 15
    · rw [if_pos c9]; exact truthI_num _
    rw [if_neg c9]
    by_cases c10 : op = 16
    · rw [if_pos c10]; exact n5
    rw [if_neg c10]
    exact n6
  · unfold factF
    have hlv := hlen v
    by_cases c1 : op = 6
    · rw [if_pos c1]; unfold Num; omega
    rw [if_neg c1]
    by_cases c2 : op = 7
    · rw [if_pos c2]; unfold Num; omega
    rw [if_neg c2]
    by_cases c3 : op = 8
    · rw [if_pos c3]; exact hid _
    rw [if_neg c3]
    by_cases c4 : op = 9
    · rw [if_pos c4]; unfold Num; omega
    rw [if_neg c4]
    by_cases c5 : op = 10
    · rw [if_pos c5]; exact truthI_num _
    exfalso; omega
theorem leaf_num {p : Prg} {g : Graph} {c : Config} {v : Nat} (h : SOK p g c v) {t : Term} {port : Int} {b : Bool} (har : arity t.op = 0) (ha : argF t p.vars.length = true) (hb : nearOp t.op = true → b = true) (hp : portOK g v b port) : Num (leafF g c v port t) := by
  have hr := (arity_bounds t.op).1 har
  obtain ⟨op, arg⟩ := t
  dsimp only at *
  unfold leafF
  dsimp only
  by_cases h1 : op = 1
  · rw [if_pos h1]
    subst h1
    have hd : decide (0 ≤ arg ∧ arg ≤ 1073741824) = true := ha
    have := of_decide_eq_true hd
    unfold Num; omega
  rw [if_neg h1]
  split
  · unfold Num; omega
  split
  · unfold Num; omega
  split
  · unfold Num; omega
  split
  · rename_i h5
    obtain ⟨a1, a2⟩ := arg_var ha (.inl h5)
    obtain ⟨a, rfl⟩ := Int.eq_ofNat_of_zero_le a1
    rw [Int.toNat_natCast]
    exact h.small h.node (by omega)
  split
  · rename_i h12
    obtain ⟨a1, a2⟩ := arg_var ha (.inr h12)
    obtain ⟨a, rfl⟩ := Int.eq_ofNat_of_zero_le a1
    obtain ⟨k, rfl, hk⟩ := hp (hb (by unfold nearOp; simp; omega))
    rw [getD_eq h.node] at hk
    obtain ⟨e, t, ht, htl, _⟩ := link_at h.gok h.node hk
    rw [e, ht, Int.toNat_natCast, Int.toNat_natCast]
    exact h.small htl (by omega)
  · rename_i h2 h3 h4 h5 h12
    exact fact_num h.gok h.node (by omega) hb hp
theorem ports_len {g : Graph} (hg : GOK g) {v : Nat} (hv : v < g.ports.length) : (g.ports.getD v []).length < 24 := by
  rw [getD_eq hv]; have := linksOK_len hv (hg.links v hv); have := hg.le; omega
theorem eval_num {p : Prg} {g : Graph} {c : Config} {v : Nat} (h : SOK p g c v) {x : Ex} (hx : x.ok) (ha : ∀ t ∈ x.terms, argF t p.vars.length = true) : ∀ {b : Bool} {port : Int}, boundOK b x → portOK g v b port → Num (evalF g c v port x) := by
  induction x with
  | leaf t => intro b port hb hp; exact leaf_num h hx (ha t (by simp [Ex.terms])) hb hp
  | un t a ih =>
    intro b port hb hp
    have ha' : ∀ s ∈ a.terms, argF s p.vars.length = true := fun s hs => ha s (by simp [Ex.terms, hs])
    simp only [evalF]
    split
    · rename_i hag
      refine foldF_num (fun y hy => ?_) (by rw [List.length_map, List.length_range]; have := ports_len h.gok h.node; omega)
      obtain ⟨k, hk, rfl⟩ := List.mem_map.1 hy
      rw [List.mem_range] at hk
      refine ih hx.2 ha' (b := true) ?_ (fun _ => ⟨k, rfl, hk⟩)
      have hb' : boundOK (b || aggregate t.op) a := hb
      rwa [hag, Bool.or_true] at hb'
    · rename_i hag
      refine unaryF_num (ih hx.2 ha' (b := b) ?_ hp)
      have hb' : boundOK (b || aggregate t.op) a := hb
      rwa [show aggregate t.op = false by simpa using hag, Bool.or_false] at hb'
  | bin t x y ihx ihy => intro b port hb hp; exact binaryF_num
  | tri t x y z ihx ihy ihz =>
    intro b port hb hp
    simp only [evalF]
    obtain ⟨_, _, o2, o3⟩ := hx
    split
    · exact ihy o2 (fun s hs => ha s (by simp [Ex.terms, hs])) hb.2.1 hp
    · exact ihz o3 (fun s hs => ha s (by simp [Ex.terms, hs])) hb.2.2 hp

end Go.Proofs.YtibfjhhadbkkgaaGreat

/- Plain laws of evaluation: the values of Bool and Port expressions; values depend on the node and its neighbours alone. -/
namespace Go.Proofs.YtibfjhhadbkkgaaGreat

theorem SOK.kinded {p : Prg} {g : Graph} {c : Config} {v : Nat} (h : SOK p g c v) {u i : Nat} (hu : u < g.ports.length) (hi : i < p.vars.length) :
    ((kindsF p).getD i 0 = 2 → (c.getD u []).getD i 0 = 0 ∨ (c.getD u []).getD i 0 = 1) ∧ ((kindsF p).getD i 0 = 3 → -1 ≤ (c.getD u []).getD i 0 ∧ (c.getD u []).getD i 0 < 24) := by
  have h1 := h.val hu hi
  have e1 : c.getD u [] = c[u]'(by rw [h.len]; exact hu) := getD_eq (by rw [h.len]; exact hu)
  have e2 : (kindsF p).getD i 0 = p.vars[i].kind := by
    rw [getD_eq (by unfold kindsF; simpa using hi)]
    simp [kindsF]
  rw [e2, e1, getD_eq (by rw [h.row hu]; exact hi)]
  have hlen := linksOK_len hu (h.gok.links u hu)
  have hle := h.gok.le
  unfold boundsF at h1
  rw [getD_eq hu] at h1
  refine ⟨fun hk => ?_, fun hk => ?_⟩
  · rw [if_pos hk] at h1
    dsimp only at h1
    omega
  · rw [if_neg (by omega), if_pos hk] at h1
    dsimp only at h1
    omega
def TypedV (k x : Int) : Prop := (k = 2 → x = 0 ∨ x = 1) ∧ (k = 3 → -1 ≤ x ∧ x < 24)
theorem typedV_truth (k : Int) (b : Bool) (h : k ≠ 3) : TypedV k (truthI b) := ⟨fun _ => truthI_01 b, fun h' => absurd h' h⟩
theorem leaf_typed {p : Prg} {g : Graph} {c : Config} {v : Nat} (h : SOK p g c v) {t : Term} {port : Int} {b : Bool} (har : arity t.op = 0) (ha : argF t p.vars.length = true) (hb : nearOp t.op = true → b = true) (hp : portOK g v b port) : TypedV (leafK (kindsF p) t) (leafF g c v port t) := by
  have hr := (arity_bounds t.op).1 har
  have hpl := ports_len h.gok h.node
  have hnear : 11 ≤ t.op → ∃ k : Nat, port = (k : Int) ∧ k < (g.ports.getD v []).length := fun h11 => hp (hb (by unfold nearOp; simp; omega))
  obtain ⟨op, arg⟩ := t
  dsimp only at *
  unfold leafK leafF
  dsimp only
  by_cases h5 : op = 5
  · subst h5
    obtain ⟨a1, a2⟩ := arg_var ha (.inl rfl)
    obtain ⟨a, rfl⟩ := Int.eq_ofNat_of_zero_le a1
    have := h.kinded (u := v) (i := a) h.node (by omega)
    simpa [TypedV] using this
  by_cases h12 : op = 12
  · subst h12
    obtain ⟨a1, a2⟩ := arg_var ha (.inr rfl)
    obtain ⟨a, rfl⟩ := Int.eq_ofNat_of_zero_le a1
    obtain ⟨k, rfl, hk⟩ := hnear (by omega)
    rw [getD_eq h.node] at hk
    obtain ⟨e, t, ht, htl, _⟩ := link_at h.gok h.node hk
    rw [e, ht]
    have := h.kinded (u := t) (i := a) htl (by omega)
    simpa [TypedV] using this
  by_cases h2 : op = 2
  · subst h2; simp [TypedV]
  by_cases h3 : op = 3
  · subst h3; simp [TypedV]
  by_cases h4 : op = 4
  · subst h4; simp [TypedV]
  by_cases h10 : op = 10
  · subst h10
    have := typedV_truth 2 (decide (v = 0)) (by omega)
    simpa [factF] using this
  by_cases h15 : op = 15
  · subst h15
    have := typedV_truth 2 (decide ((linkF g v port).to = 0)) (by omega)
    simpa [factF] using this
  by_cases h11 : op = 11
  · subst h11
    obtain ⟨k, rfl, hk⟩ := hnear (by omega)
    simp [factF, TypedV]
    omega
  by_cases h17 : op = 17
  · subst h17
    obtain ⟨k, rfl, hk⟩ := hnear (by omega)
    rw [getD_eq h.node] at hk
    obtain ⟨e, t, ht, htl, _⟩ := link_at h.gok h.node hk
    have h1 := portF_range (g.ports.getD t []) (v : Int)
    have h2 := ports_len h.gok htl
    simp only [List.getD_eq_getElem?_getD] at h1 h2
    simp [factF, e, ht, TypedV]
    omega
  rw [if_neg (by omega), if_neg (by omega), if_neg (by omega)]
  exact ⟨fun h => absurd h (by decide), fun h => absurd h (by decide)⟩
theorem typedV_ifK {b : Bool} {k x : Int} (h : TypedV k x) : TypedV (ifK b k) x := by
  unfold ifK
  cases b
  · exact ⟨fun h => by simp at h, fun h => by simp at h⟩
  · exact h
theorem typedV_one (x : Int) : TypedV 1 x := ⟨fun h => absurd h (by decide), fun h => absurd h (by decide)⟩
theorem eval_typed {p : Prg} {g : Graph} {c : Config} {v : Nat} (h : SOK p g c v) {x : Ex} (hx : x.ok) (ha : ∀ t ∈ x.terms, argF t p.vars.length = true) : ∀ {b : Bool} {port : Int}, boundOK b x → portOK g v b port → TypedV (kindF (kindsF p) b x) (evalF g c v port x) := by
  induction x with
  | leaf t =>
    intro b port hb hp
    have := leaf_typed h hx (ha t (by simp [Ex.terms])) hb hp
    simp only [kindF, evalF]
    split
    · exact ⟨fun h => absurd h (by decide), fun h => absurd h (by decide)⟩
    · exact this
  | un t a ih =>
    intro b port hb hp
    have hr := (arity_bounds t.op).2.1 hx.1
    have hpl := ports_len h.gok h.node
    simp only [evalF, kindF]
    obtain ⟨op, arg⟩ := t
    dsimp only at *
    generalize hL : (List.range (g.ports.getD v []).length).map (fun (k : Nat) => evalF g c v (k : Int) a) = L
    have hLl : L.length = (g.ports.getD v []).length := by rw [← hL]; simp
    unfold singleK
    by_cases h19 : op = 19
    · subst h19
      rw [if_pos (by omega), show aggregate 19 = false by decide]
      simp only [Bool.false_eq_true, if_false, unaryF]
      exact typedV_ifK (typedV_truth 2 _ (by omega))
    by_cases h20 : op = 20
    · subst h20
      rw [if_pos (by omega), show aggregate 20 = true by decide]
      simp only [if_true, foldF]
      exact typedV_ifK (typedV_truth 2 _ (by omega))
    by_cases h21 : op = 21
    · subst h21
      rw [if_pos (by omega), show aggregate 21 = true by decide]
      simp [foldF]
      exact typedV_ifK (typedV_truth 2 _ (by omega))
    rw [if_neg (by omega)]
    by_cases h22 : op = 22
    · rw [if_pos h22]; exact typedV_ifK (typedV_one _)
    rw [if_neg h22]
    by_cases h23 : op = 23
    · subst h23
      rw [if_pos rfl, show aggregate 23 = true by decide]
      have := firstGo_range L 0
      refine typedV_ifK ⟨fun h => absurd h (by decide), fun _ => ?_⟩
      simp [foldF]
      omega
    rw [if_neg h23]
    exact typedV_ifK (typedV_one _)
  | bin t x y ihx ihy =>
    intro b port hb hp
    have hr := (arity_bounds t.op).2.2.1 hx.1
    simp only [evalF, kindF]
    obtain ⟨op, arg⟩ := t
    dsimp only at *
    generalize evalF g c v port x = A
    generalize evalF g c v port y = B
    have ht : 35 ≤ op → ∃ q, binaryF op A B = truthI q := by
      intro h35
      unfold binaryF applyF
      rw [if_neg (by omega), if_neg (by omega), if_neg (by omega), if_neg (by omega), if_neg (by omega)]
      repeat' split
      all_goals exact ⟨_, satF_truthI _⟩
    unfold doubleK
    split
    · obtain ⟨q, hq⟩ := ht (by omega)
      rw [hq]; exact typedV_ifK (typedV_truth 2 _ (by omega))
    split
    · obtain ⟨q, hq⟩ := ht (by omega)
      rw [hq]; exact typedV_ifK (typedV_truth 2 _ (by omega))
    split
    · obtain ⟨q, hq⟩ := ht (by omega)
      rw [hq]; exact typedV_ifK (typedV_truth 2 _ (by omega))
    · exact typedV_ifK (typedV_one _)
  | tri t x y z ihx ihy ihz =>
    intro b port hb hp
    simp only [evalF, kindF]
    obtain ⟨_, _, o2, o3⟩ := hx
    have hy := ihy o2 (fun s hs => ha s (by simp [Ex.terms, hs])) hb.2.1 hp
    have hz := ihz o3 (fun s hs => ha s (by simp [Ex.terms, hs])) hb.2.2 hp
    cases he : (kindF (kindsF p) b x == 2 && kindF (kindsF p) b y == kindF (kindsF p) b z) with
    | false => exact ⟨fun h => by simp [ifK] at h, fun h => by simp [ifK] at h⟩
    | true =>
      simp only [Bool.and_eq_true, beq_iff_eq] at he
      show TypedV (kindF (kindsF p) b y) _
      split
      · exact hy
      · rw [he.2]; exact hz

/-! ### Locality -/
theorem leaf_local {g : Graph} {c d : Config} {v : Nat} (hg : GOK g) (hv : v < g.ports.length) (hown : c.getD v [] = d.getD v []) (hnear : ∀ l ∈ g.ports.getD v [], c.getD l.to.toNat [] = d.getD l.to.toNat []) {t : Term} {port : Int} {b : Bool} (hb : nearOp t.op = true → b = true) (hp : portOK g v b port) : leafF g c v port t = leafF g d v port t := by
  unfold leafF
  rw [hown]
  by_cases h12 : t.op = 12
  · obtain ⟨k, rfl, hk⟩ := hp (hb (by unfold nearOp; simp; omega))
    rw [getD_eq hv] at hk hnear
    obtain ⟨e, t, ht, htl, _⟩ := link_at hg hv hk
    rw [e, hnear _ (List.getElem_mem hk)]
  · rw [if_neg h12, if_neg h12]
theorem eval_local {g : Graph} {c d : Config} {v : Nat} (hg : GOK g) (hv : v < g.ports.length) (hown : c.getD v [] = d.getD v []) (hnear : ∀ l ∈ g.ports.getD v [], c.getD l.to.toNat [] = d.getD l.to.toNat []) {x : Ex} : ∀ {b : Bool} {port : Int}, boundOK b x → portOK g v b port → evalF g c v port x = evalF g d v port x := by
  induction x with
  | leaf t => intro b port hb hp; exact leaf_local hg hv hown hnear hb hp
  | un t a ih =>
    intro b port hb hp
    have hb' : boundOK (b || aggregate t.op) a := hb
    simp only [evalF]
    split
    · rename_i hag
      rw [hag, Bool.or_true] at hb'
      congr 1
      refine List.map_congr_left fun k hk => ?_
      rw [List.mem_range] at hk
      exact ih hb' (fun _ => ⟨k, rfl, hk⟩)
    · rename_i hag
      rw [show aggregate t.op = false by simpa using hag, Bool.or_false] at hb'
      rw [ih hb' hp]
  | bin t x y ihx ihy => intro b port hb hp; simp only [evalF]; rw [ihx hb.1 hp, ihy hb.2 hp]
  | tri t x y z ihx ihy ihz => intro b port hb hp; simp only [evalF]; rw [ihx hb.1 hp, ihy hb.2.1 hp, ihz hb.2.2 hp]

end Go.Proofs.YtibfjhhadbkkgaaGreat

/- Contracts: the reference's Fact and leaf. -/
namespace Go.Proofs.YtibfjhhadbkkgaaGreat
open Go.RowKit

theorem fact_op {op : Int} (h : 6 ≤ op ∧ op ≤ 17 ∧ op ≠ 12) : (op = 6 ∨ op = 7 ∨ op = 8 ∨ op = 9 ∨ op = 10 ∨ op = 11) ∨ (op = 13 ∨ op = 14 ∨ op = 15 ∨ op = 16 ∨ op = 17) := by omega

set_option maxRecDepth 100000 in
set_option maxHeartbeats 2000000 in
theorem refFact_any (v2 : Value) (g : Graph) (op : Int) (v : Nat) (port : Int) (b : Bool) (w : World) (h2 : GraphV w v2 g) (hg : GOK g) (hv : v < g.ports.length) (hop : 6 ≤ op ∧ op ≤ 17 ∧ op ≠ 12) (hb : nearOp op = true → b = true) (hp : portOK g v b port) :
    Calls Tryz.prog 149 #[v2, .int .i64 op, .int .i64 v, .int .i64 port] w fun e w' => e = .returned (.int .i64 (factF g op v port)) ∧ Bel w w' := by
  have HGV := Lib.hid (fun w' (k : Bel w w') => h2.keep k)
  obtain ⟨A, k, A2, k2, rfl, hI, _, _, hP, _, _⟩ := h2
  have hids := hg.ids
  have hle := hg.le
  have hvi : v < g.ids.length := by omega
  have hl1000 : g.ids.length ≤ 1000 := by omega
  obtain ⟨b1, o1, rfl, hb1, hid⟩ := hI.at_ v hvi
  obtain ⟨b2, o2, R, rc, rfl, hb2, hrow, hL, _, _⟩ := hP.at_ v hv
  have HB := (Bel.refl w).alloc (.cells #[.slice (some ⟨b1, o1, none⟩) g.ids.length k, .slice (some ⟨b2, o2, none⟩) g.ports.length k2] 29)
  have hdv : decide (v < g.ports.length) = true := by simpa using hv
  have hdi : decide (v < g.ids.length) = true := by simpa using hvi
  have HID := Lib.hid hids
  clear hids
  rcases fact_op hop with (rfl | rfl | rfl | rfl | rfl | rfl) | hnear
  · have HF : Hid (factF g 6 v port = g.ports.length) := by show factF g 6 v port = _; unfold factF; rw [if_pos rfl, HID.out]
    clear hI hP hb hp hop
    go_enter Tryz.func149, Tryz.ntmps149
    go_wp2
    go_ret
    exact ⟨ret_int HF.out.symm, HB⟩
  · clear hI hP hb hp hop
    have HF : Hid (factF g 7 v port = gmax g.ids) := rfl
    go_enter Tryz.func149, Tryz.ntmps149
    go_wp2_with (go_at_call 121; refine (greatest_any _ g _ (HGV.out _ HB) hl1000).mono ?_; rintro e w' ⟨rfl, hbb⟩; replace HB := HB.trans hbb; clear hbb)
    go_ret
    exact ⟨ret_int HF.out.symm, HB⟩
  · have HF : Hid (factF g 8 v port = g.ids[v]) := getD_eq hvi
    clear hI hP hb hp hop
    go_enter Tryz.func149, Tryz.ntmps149
    go_wp2
    go_ret
    exact ⟨ret_int HF.out.symm, HB⟩
  · have HF : Hid (factF g 9 v port = (g.ports[v].length : Int)) := by show factF g 9 v port = _; rw [← getD_eq (d := []) hv]; rfl
    clear hI hP hb hp hop
    go_enter Tryz.func149, Tryz.ntmps149
    go_wp2
    go_ret
    exact ⟨ret_int HF.out.symm, HB⟩
  · have HF : Hid (factF g 10 v port = truthI (decide (v = 0))) := rfl
    obtain ⟨z, hz⟩ : ∃ z, decide (v = 0) = z := ⟨_, rfl⟩
    rw [hz] at HF
    have hz1 : ((v : Int) == 0) = z := by rw [← hz, Bool.eq_iff_iff]; simp
    have hz2 : (v == 0) = z := by rw [← hz, Bool.eq_iff_iff]; simp
    clear hI hP hb hp hop hz
    go_enter Tryz.func149, Tryz.ntmps149
    go_wp2_with (go_at_call 150; refine (refTruth_any _ _).mono ?_; rintro e w' ⟨rfl, rfl⟩)
    go_ret
    exact ⟨ret_int HF.out.symm, HB⟩
  · have HF : Hid (factF g 11 v port = port) := rfl
    clear hI hP hb hp hop
    go_enter Tryz.func149, Tryz.ntmps149
    go_wp2
    go_ret
    exact ⟨ret_int HF.out.symm, HB⟩
  · obtain ⟨q, rfl, hq⟩ := hp (hb (by unfold nearOp; simp; omega))
    rw [getD_eq hv] at hq
    obtain ⟨e, t, ht, htl, _⟩ := link_at hg hv hq
    obtain ⟨b3, o3, rfl, hb3, hto, hwe⟩ := hL.at_ q hq
    have hti : t < g.ids.length := by rw [HID.out]; exact htl
    obtain ⟨b4, o4, e4, _, hid4⟩ := hI.at_ t hti
    obtain ⟨rfl, rfl⟩ : b1 = b4 ∧ o1 = o4 := by simpa using e4
    obtain ⟨b5, o5, R5, rc5, e5, _, hrow5, _, _, _⟩ := hP.at_ t htl
    obtain ⟨rfl, rfl⟩ : b2 = b5 ∧ o2 = o5 := by simpa using e5
    rw [ht] at hto
    have hdt : decide (t < g.ports.length) = true := by simpa using htl
    have hdti : decide (t < g.ids.length) = true := by simpa using hti
    have hdq : decide (q < g.ports[v].length) = true := by simpa using hq
    have HE := Lib.hid e
    have HT := Lib.hid ht
    clear hI hP hb hp hop e4 e5 e ht hL
    rcases hnear with rfl | rfl | rfl | rfl | rfl
    · have HF : Hid (factF g 13 v (q : Int) = g.ids[t]) := by show g.ids.getD (linkF g v q).to.toNat 0 = _; rw [HE.out, HT.out, Int.toNat_natCast, getD_eq hti]
      go_enter Tryz.func149, Tryz.ntmps149
      go_wp2
      go_ret
      exact ⟨ret_int HF.out.symm, HB⟩
    · have HF : Hid (factF g 14 v (q : Int) = (g.ports[t].length : Int)) := by show ((g.ports.getD (linkF g v q).to.toNat []).length : Int) = _; rw [HE.out, HT.out, Int.toNat_natCast, getD_eq htl]
      go_enter Tryz.func149, Tryz.ntmps149
      go_wp2
      go_ret
      exact ⟨ret_int HF.out.symm, HB⟩
    · have HF : Hid (factF g 15 v (q : Int) = truthI (decide ((t : Int) = 0))) := by show truthI (decide ((linkF g v q).to = 0)) = _; rw [HE.out, HT.out]
      obtain ⟨z, hz⟩ : ∃ z, decide ((t : Int) = 0) = z := ⟨_, rfl⟩
      rw [hz] at HF
      have hz1 : ((t : Int) == 0) = z := by rw [← hz, Bool.eq_iff_iff]; simp
      have hz2 : (t == 0) = z := by rw [← hz, Bool.eq_iff_iff]; simp
      clear hz
      go_enter Tryz.func149, Tryz.ntmps149
      go_wp2_with (go_at_call 150; refine (refTruth_any _ _).mono ?_; rintro e w' ⟨rfl, rfl⟩)
      go_ret
      exact ⟨ret_int HF.out.symm, HB⟩
    · have HF : Hid (factF g 16 v (q : Int) = g.ports[v][q].weight) := by show (linkF g v q).weight = _; rw [HE.out]
      go_enter Tryz.func149, Tryz.ntmps149
      go_wp2
      go_ret
      exact ⟨ret_int HF.out.symm, HB⟩
    · have HF : Hid (factF g 17 v (q : Int) = portF g.ports[t] v) := by show portF (g.ports.getD (linkF g v q).to.toNat []) v = _; rw [HE.out, HT.out, Int.toNat_natCast, getD_eq htl]
      go_enter Tryz.func149, Tryz.ntmps149
      go_wp2_with (go_at_call 88; refine (port01_any _ g t (v : Int) _ (HGV.out _ HB) htl).mono ?_; rintro e w' ⟨rfl, hbb⟩; replace HB := HB.trans hbb; clear hbb)
      go_ret
      exact ⟨ret_int HF.out.symm, HB⟩

theorem leaf_op {op : Int} (h : 1 ≤ op ∧ op ≤ 17) : (op = 1 ∨ op = 2 ∨ op = 3 ∨ op = 4) ∨ op = 5 ∨ op = 12 ∨ (6 ≤ op ∧ op ≤ 17 ∧ op ≠ 12) := by omega

set_option maxRecDepth 100000 in
set_option maxHeartbeats 2000000 in
theorem refLeafV_any (v2 : Value) (p : Prg) (g : Graph) (v3 : Value) (c : Config) (v : Nat) (port : Int) (t : Term) (b : Bool) (w : World) (h2 : GraphV w v2 g) (h3 : ConfV w v3 c) (hs : SOK p g c v) (har : arity t.op = 0) (ha : argF t p.vars.length = true) (hb : nearOp t.op = true → b = true) (hp : portOK g v b port) :
    Calls Tryz.prog 115 #[v2, v3, .int .i64 v, .int .i64 port, .agg #[.int .i64 t.op, .int .i64 t.arg]] w fun e w' => e = .returned (.int .i64 (leafF g c v port t)) ∧ Bel w w' := by
  have hr := (arity_bounds t.op).1 har
  have HGV := Lib.hid (fun w' (k : Bel w w') => h2.keep k)
  obtain ⟨A, k, A2, k2, rfl, hI, _, _, hP, _, _⟩ := h2
  obtain ⟨A3, k3, rfl, hC, _, _⟩ := h3
  obtain ⟨op, arg⟩ := t
  dsimp only at *
  have hv := hs.node
  have hdv : decide (v < c.length) = true := by simp [hs.len, hv]
  have HB := ((Bel.refl w).alloc (.cells #[.slice A g.ids.length k, .slice A2 g.ports.length k2] 29)).alloc (.cells #[.int .i64 op, .int .i64 arg] 90)
  rcases leaf_op hr with hq | rfl | rfl | hq
  · clear hI hP hC hb hp har
    have HF : Hid (leafF g c v port ⟨op, arg⟩ = if op = 1 then arg else if op = 2 then 1 else if op = 3 then 0 else -1) := by
      show leafF g c v port ⟨op, arg⟩ = _
      unfold leafF
      rcases hq with rfl | rfl | rfl | rfl <;> simp
    rcases hq with rfl | rfl | rfl | rfl
    all_goals
      go_enter Tryz.func115, Tryz.ntmps115
      go_wp2
      go_ret
      exact ⟨ret_int HF.out.symm, HB⟩
  · obtain ⟨a1, a2⟩ := arg_var ha (.inl rfl)
    obtain ⟨a, rfl⟩ := Int.eq_ofNat_of_zero_le a1
    have hvc : v < c.length := by rw [hs.len]; exact hv
    have hac : a < c[v].length := by rw [hs.row hv]; omega
    obtain ⟨b1, o1, R, rc, rfl, hb1, hrow, hR, _, _⟩ := hC.at_ v hvc
    obtain ⟨b2, o2, rfl, hb2, hval⟩ := hR.at_ a hac
    have HF : Hid (leafF g c v port ⟨5, (a : Int)⟩ = c[v][a]) := by
      show (c.getD v []).getD (a : Int).toNat 0 = _
      rw [Int.toNat_natCast, getD_eq hvc, getD_eq hac]
    have hda : decide (a < c[v].length) = true := by simpa using hac
    clear hI hP hC hb hp har hR ha
    go_enter Tryz.func115, Tryz.ntmps115
    go_wp2
    go_quiet (fail)
    go_wp2
    go_ret
    exact ⟨ret_int HF.out.symm, HB.drewN _⟩
  · obtain ⟨a1, a2⟩ := arg_var ha (.inr rfl)
    obtain ⟨a, rfl⟩ := Int.eq_ofNat_of_zero_le a1
    obtain ⟨q, rfl, hq⟩ := hp (hb (by unfold nearOp; simp))
    rw [getD_eq hv] at hq
    obtain ⟨e, t, ht, htl, _⟩ := link_at hs.gok hv hq
    obtain ⟨b3, o3, R3, rc3, rfl, hb3, hrow3, hL3, _, _⟩ := hP.at_ v hv
    obtain ⟨b4, o4, rfl, hb4, hto, _⟩ := hL3.at_ q hq
    rw [ht] at hto
    have htc : t < c.length := by rw [hs.len]; exact htl
    have hac : a < c[t].length := by rw [hs.row htl]; omega
    obtain ⟨b1, o1, R, rc, rfl, hb1, hrow, hR, _, _⟩ := hC.at_ t htc
    obtain ⟨b2, o2, rfl, hb2, hval⟩ := hR.at_ a hac
    have HF : Hid (leafF g c v (q : Int) ⟨12, (a : Int)⟩ = c[t][a]) := by
      show (c.getD (linkF g v q).to.toNat []).getD (a : Int).toNat 0 = _
      rw [e, ht, Int.toNat_natCast, Int.toNat_natCast, getD_eq htc, getD_eq hac]
    have hda : decide (a < c[t].length) = true := by simpa using hac
    have hdt : decide (t < c.length) = true := by simpa using htc
    have hdp : decide (v < g.ports.length) = true := by simpa using hv
    have hdq : decide (q < g.ports[v].length) = true := by simpa using hq
    clear hI hP hC hb hp har hR ha hL3 e ht
    go_enter Tryz.func115, Tryz.ntmps115
    go_wp2
    go_quiet (fail)
    go_wp2
    go_ret
    exact ⟨ret_int HF.out.symm, HB.drewN _⟩
  · have HF : Hid (leafF g c v port ⟨op, arg⟩ = factF g op v port) := by
      show leafF g c v port ⟨op, arg⟩ = _
      unfold leafF
      dsimp only
      rw [if_neg (by omega), if_neg (by omega), if_neg (by omega), if_neg (by omega), if_neg (by omega), if_neg (by omega)]
    have e1 : (op == 1) = false := by simp; omega
    have e2 : (op == 2) = false := by simp; omega
    have e3 : (op == 3) = false := by simp; omega
    have e4 : (op == 4) = false := by simp; omega
    have e5 : (op == 5) = false := by simp; omega
    have e12 : (op == 12) = false := by simp; omega
    have HG := Lib.hid hs.gok
    have HQ := Lib.hid hq
    have HBB := Lib.hid hb
    have HPP := Lib.hid hp
    clear hI hP hC hb hp har ha hq
    go_enter Tryz.func115, Tryz.ntmps115
    go_wp2_with (go_at_call 149; refine (refFact_any _ g op v port b _ (HGV.out _ HB) HG.out hv HQ.out HBB.out HPP.out).mono ?_; rintro e w' ⟨rfl, hbb⟩; replace HB := HB.trans hbb; clear hbb)
    go_ret
    exact ⟨ret_int HF.out.symm, HB⟩

end Go.Proofs.YtibfjhhadbkkgaaGreat

