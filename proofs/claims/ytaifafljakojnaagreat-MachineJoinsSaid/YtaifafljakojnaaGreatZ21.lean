/- Merged of: WEf W13b W13c AnyC (see NOTES.md). -/
import Derived.Test.YtaifafljakojnaaGreatZ15
import Derived.Test.YtaifafljakojnaaGreatZ20
import Derived.Test.YtaifafljakojnaaGreatZ14
import Derived.Test.YtaifafljakojnaaGreatZ12
set_option linter.unusedSimpArgs false
set_option linter.unnecessarySimpa false
set_option linter.unusedVariables false

/- Contracts: the program's Fact. -/
namespace Go.Proofs.YtaifafljakojnaaGreat
open Go.RowKit

set_option maxRecDepth 100000 in
set_option maxHeartbeats 4000000 in
theorem fact_any (B : Nat) (p : Prg) (g : Graph) (op : Int) (v : Nat) (port : Int) (b : Bool) (w : World) (hS : SceneR w B p g) (hg : GOK g) (hv : v < g.ports.length) (hop : 6 ≤ op ∧ op ≤ 17 ∧ op ≠ 12) (hb : nearOp op = true → b = true) (hp : portOK g v b port) :
    Calls Tryz.prog 112 #[.pointer (some ⟨B, 0, none⟩), .int .i64 op, .int .i64 v, .int .i64 port] w fun e w' => e = .returned (.int .i64 (factF g op v port)) ∧ Bel w w' := by
  obtain ⟨A1, k1, A2, k2, A3, k3, A4, k4, gb, hB, _, hGV, hBK⟩ := hS
  have z3 := hB.cell 3 (v := .slice A3 g.ids.length k3) rfl
  have z4 := hB.cell 4 (v := .slice A4 g.ports.length k4) rfl
  have z5 := hB.cell 5 (v := .int .i64 (gmax g.ids)) rfl
  have z6 := hB.cell 6 (v := .slice (some ⟨gb, 0, none⟩) g.ports.length g.ports.length) rfl
  have zl := hB.lt
  obtain ⟨A, k, A2', k2', eG, hI, _, _, hP, _, _⟩ := hGV
  obtain ⟨⟨rfl, rfl⟩, rfl, rfl⟩ : (A3 = A ∧ k3 = k) ∧ A4 = A2' ∧ k4 = k2' := by simpa using eG
  have hids := hg.ids
  have hle := hg.le
  have hvi : v < g.ids.length := by omega
  have hbkl : (backsF g).length = g.ports.length := by simp [backsF]
  have hbkv : (backsF g)[v]'(by omega) = backRow g v := by simp [backsF]
  obtain ⟨b1, o1, rfl, hb1, hid⟩ := hI.at_ v hvi
  obtain ⟨b2, o2, R, rc, rfl, hb2, hrow, hL, _, _⟩ := hP.at_ v hv
  obtain ⟨b6, o6, R6, rc6, e6, hb6, hrow6, hL6, hn6, hm6⟩ := hBK.at_ v (by omega)
  obtain ⟨rfl, rfl⟩ : gb = b6 ∧ 0 = o6 := by simpa using e6
  rw [hbkv] at hrow6 hL6
  clear hn6 hm6
  rw [Nat.zero_add] at hrow6
  have hdv : decide (v < g.ports.length) = true := by simpa using hv
  have hdi : decide (v < g.ids.length) = true := by simpa using hvi
  have hbr : (backRow g v).length = g.ports[v].length := by unfold backRow; rw [getD_eq hv, List.length_map]
  rw [hbr] at hrow6
  have HID := Lib.hid hids
  have HBR := Lib.hid hbr
  clear hids hB eG e6 hbkv hbr
  rcases fact_op hop with (rfl | rfl | rfl | rfl | rfl | rfl) | hnear
  · have HF : Hid (factF g 6 v port = g.ids.length) := rfl
    clear hI hP hb hp hop hBK hL6 hL
    go_enter Tryz.func112, Tryz.ntmps112
    go_wp2
    go_ret
    exact ⟨ret_int HF.out.symm, Bel.refl _⟩
  · clear hI hP hb hp hop hBK hL6 hL
    have HF : Hid (factF g 7 v port = gmax g.ids) := rfl
    go_enter Tryz.func112, Tryz.ntmps112
    go_wp2
    go_ret
    exact ⟨ret_int HF.out.symm, Bel.refl _⟩
  · have HF : Hid (factF g 8 v port = g.ids[v]) := getD_eq hvi
    clear hI hP hb hp hop hBK hL6 hL
    go_enter Tryz.func112, Tryz.ntmps112
    go_wp2
    go_ret
    exact ⟨ret_int HF.out.symm, Bel.refl _⟩
  · have HF : Hid (factF g 9 v port = (g.ports[v].length : Int)) := by show factF g 9 v port = _; rw [← getD_eq (d := []) hv]; rfl
    clear hI hP hb hp hop hBK hL6 hL
    go_enter Tryz.func112, Tryz.ntmps112
    go_wp2
    go_ret
    exact ⟨ret_int HF.out.symm, Bel.refl _⟩
  · have HF : Hid (factF g 10 v port = truthI (decide (v = 0))) := rfl
    obtain ⟨z, hz⟩ : ∃ z, decide (v = 0) = z := ⟨_, rfl⟩
    rw [hz] at HF
    have hz1 : ((v : Int) == 0) = z := by rw [← hz, Bool.eq_iff_iff]; simp
    have hz2 : (v == 0) = z := by rw [← hz, Bool.eq_iff_iff]; simp
    clear hI hP hb hp hop hz hBK hL6 hL
    go_enter Tryz.func112, Tryz.ntmps112
    go_wp2_with (go_at_call 143; refine (truth_any _ _).mono ?_; rintro e w' ⟨rfl, rfl⟩)
    go_ret
    exact ⟨ret_int HF.out.symm, Bel.refl _⟩
  · have HF : Hid (factF g 11 v port = port) := rfl
    clear hI hP hb hp hop hBK hL6 hL
    go_enter Tryz.func112, Tryz.ntmps112
    go_wp2
    go_ret
    exact ⟨ret_int HF.out.symm, Bel.refl _⟩
  · obtain ⟨q, rfl, hq⟩ := hp (hb (by unfold nearOp; simp; omega))
    rw [getD_eq hv] at hq
    obtain ⟨e, t, ht, htl, _⟩ := link_at hg hv hq
    obtain ⟨b3, o3, rfl, hb3, hto, hwe⟩ := hL.at_ q hq
    have hti : t < g.ids.length := by rw [HID.out]; exact htl
    obtain ⟨b4, o4, e4, _, hid4⟩ := hI.at_ t hti
    obtain ⟨rfl, rfl⟩ : b1 = b4 ∧ o1 = o4 := by simpa using e4
    obtain ⟨b5, o5, R5, rc5, e5, _, hrow5, _, _, _⟩ := hP.at_ t htl
    obtain ⟨rfl, rfl⟩ : b2 = b5 ∧ o2 = o5 := by simpa using e5
    obtain ⟨b7, o7, rfl, hb7, hbk⟩ := hL6.at_ q (by rw [HBR.out]; exact hq)
    have hbe : (backRow g v)[q]'(by rw [HBR.out]; exact hq) = portF g.ports[t] v := by
      have : (backRow g v)[q]? = some (portF g.ports[t] v) := by
        unfold backRow
        rw [getD_eq hv, List.getElem?_map, List.getElem?_eq_getElem hq]
        simp only [Option.map_some]
        rw [ht, Int.toNat_natCast, getD_eq htl]
      exact (List.getElem?_eq_some_iff.1 this).2
    rw [hbe] at hbk
    rw [ht] at hto
    have hdt : decide (t < g.ports.length) = true := by simpa using htl
    have hdti : decide (t < g.ids.length) = true := by simpa using hti
    have hdq : decide (q < g.ports[v].length) = true := by simpa using hq
    have HE := Lib.hid e
    have HT := Lib.hid ht
    clear hI hP hb hp hop e4 e5 e ht hL hBK hL6 hbe
    rcases hnear with rfl | rfl | rfl | rfl | rfl
    · have HF : Hid (factF g 13 v (q : Int) = g.ids[t]) := by show g.ids.getD (linkF g v q).to.toNat 0 = _; rw [HE.out, HT.out, Int.toNat_natCast, getD_eq hti]
      go_enter Tryz.func112, Tryz.ntmps112
      go_wp2_with fail
      go_quiet (fail)
      go_wp2_with fail
      go_ret
      exact ⟨ret_int HF.out.symm, (((Bel.refl w).alloc _).drewN _)⟩
    · have HF : Hid (factF g 14 v (q : Int) = (g.ports[t].length : Int)) := by show ((g.ports.getD (linkF g v q).to.toNat []).length : Int) = _; rw [HE.out, HT.out, Int.toNat_natCast, getD_eq htl]
      go_enter Tryz.func112, Tryz.ntmps112
      go_wp2_with fail
      go_quiet (fail)
      go_wp2_with fail
      go_ret
      exact ⟨ret_int HF.out.symm, (((Bel.refl w).alloc _).drewN _)⟩
    · have HF : Hid (factF g 15 v (q : Int) = truthI (decide ((t : Int) = 0))) := by show truthI (decide ((linkF g v q).to = 0)) = _; rw [HE.out, HT.out]
      obtain ⟨z, hz⟩ : ∃ z, decide ((t : Int) = 0) = z := ⟨_, rfl⟩
      rw [hz] at HF
      have hz1 : ((t : Int) == 0) = z := by rw [← hz, Bool.eq_iff_iff]; simp
      have hz2 : (t == 0) = z := by rw [← hz, Bool.eq_iff_iff]; simp
      clear hz
      go_enter Tryz.func112, Tryz.ntmps112
      go_wp2_with (go_at_call 143; refine (truth_any _ _).mono ?_; rintro e w' ⟨rfl, rfl⟩)
      go_ret
      exact ⟨ret_int HF.out.symm, ((Bel.refl w).alloc _)⟩
    · have HF : Hid (factF g 16 v (q : Int) = g.ports[v][q].weight) := by show (linkF g v q).weight = _; rw [HE.out]
      go_enter Tryz.func112, Tryz.ntmps112
      go_wp2
      go_ret
      exact ⟨ret_int HF.out.symm, ((Bel.refl w).alloc _)⟩
    · have HF : Hid (factF g 17 v (q : Int) = portF g.ports[t] v) := by show portF (g.ports.getD (linkF g v q).to.toNat []) v = _; rw [HE.out, HT.out, Int.toNat_natCast, getD_eq htl]
      go_enter Tryz.func112, Tryz.ntmps112
      go_wp2
      go_ret
      exact ⟨ret_int HF.out.symm, ((Bel.refl w).alloc _)⟩

end Go.Proofs.YtaifafljakojnaaGreat

/- Contracts: the methods of the program's machine: push, pop, port. -/
namespace Go.Proofs.YtaifafljakojnaaGreat
open Go.RowKit

theorem hd_own (A : Option Addr) (n c : Nat) : (Value.slice A n c).ownBlock = Hd.blk (A, c) := by cases A <;> rfl
/-- A number has been appended to the stack. -/
theorem Rw.pushed {e : TypeId} {sz : Nat} {fc : Frm → List Value} {w w2 : World} {base : Nat} {A A' : Option Addr} {c c' : Nat} {L : Hd} {st : List Int} {fr : List Frm} {a : Int} (h : Rw e sz fc w base (A, c) L st fr) (hne : e ≠ 3)
    (ho : w2.ownsRow base 3 1 (.slice A' (st.length + 1) c') (st.length + 1) (st.reverse.map (Value.int .i64) ++ [.int .i64 a])) (hg : w.grownBy w2 (Value.slice A st.length c).ownBlock)
    (hat : (Value.slice A' (st.length + 1) c').ownBlock = (Value.slice A st.length c).ownBlock ∨ (Value.slice A' (st.length + 1) c').ownBlock = some w.heap.size) : Rw e sz fc w2 base (A', c') L (a :: st) fr := by
  rw [hd_own] at hg hat
  rw [hd_own] at hat
  refine h.push hne ?_ hg hat
  unfold OwnM Hd.val
  simpa using ho
/-- What a machine of the program is made of. -/
structure Mc where
  w0 : World
  wT : World
  B : Nat
  L : Option Addr
  nL : Nat
  cL : Nat
  Bs : Nat
  K : Option Addr
  nK : Nat
  cK : Nat
  C : Option Addr
  nC : Nat
  cC : Nat
  v : Nat
def machC (k : Mc) (p : Nat) (S : Value) (L : Value) : Array Value :=
  #[.slice k.L k.nL k.cL, .pointer (some ⟨k.Bs, 0, none⟩), .slice k.K k.nK k.cK, .slice k.C k.nC k.cC, .int .i64 k.v, .int .i64 p, S, L]
def lpC (f : Frm) : List Value := [.int .i64 f.at_, .slice f.hd.1 f.vals.length f.hd.2]
theorem lpC_len (f : Frm) : (lpC f).length = 2 := rfl
/-- A machine: its block, and its rows. -/
structure MX (T e : TypeId) (sz : Nat) (fc : Frm → List Value) (w0 wT : World) (B : Nat) (hd : Value → Value → Array Value) (w : World) (st : List Int) (A : Option Addr) (c : Nat) (L : Option Addr) (lc : Nat) (fr : List Frm) : Prop where
  blk : Blk w B (hd (.slice A st.length c) (.slice L fr.length lc)) T
  rows : Rw e sz fc w wT.heap.size (A, c) (L, lc) st fr
  le0 : w0.heap.size ≤ B
  lt1 : B < wT.heap.size
  bel : Bel w0 w
  grown : wT.grownBy w (some B)
theorem grown_bel {a b c : World} {row : Option Nat} (h : a.grownBy b row) (k : Bel b c) : a.grownBy c row := h.trans (k.grownBy row)
def MM (T e : TypeId) (sz : Nat) (fc : Frm → List Value) (w0 wT : World) (B : Nat) (hd : Value → Value → Array Value) (w : World) (st : List Int) (lps : List (Nat × List Int)) : Prop :=
  ∃ A c L lc fr, MX T e sz fc w0 wT B hd w st A c L lc fr ∧ lps = fr.map Frm.lp
section
variable {T e : TypeId} {sz : Nat} {fc : Frm → List Value} {w0 wT w w' : World} {B : Nat} {hd : Value → Value → Array Value} {st : List Int} {A L : Option Addr} {c lc : Nat} {fr : List Frm} {lps : List (Nat × List Int)}
theorem MX.keep (h : MX T e sz fc w0 wT B hd w st A c L lc fr) (b : Bel w w') : MX T e sz fc w0 wT B hd w' st A c L lc fr :=
  ⟨h.blk.keep b, h.rows.keep b, h.le0, h.lt1, h.bel.trans b, grown_bel h.grown b⟩
theorem MX.drew (h : MX T e sz fc w0 wT B hd w st A c L lc fr) : MX T e sz fc w0 wT B hd w.drew st A c L lc fr := h.keep (Bel.refl w).drew
theorem MX.drewN (h : MX T e sz fc w0 wT B hd w st A c L lc fr) (n : Nat) : MX T e sz fc w0 wT B hd (w.drewN n) st A c L lc fr := h.keep ((Bel.refl w).drewN n)
theorem MM.keep (h : MM T e sz fc w0 wT B hd w st lps) (b : Bel w w') : MM T e sz fc w0 wT B hd w' st lps := by
  obtain ⟨A, c, L, lc, fr, hX, hl⟩ := h
  exact ⟨A, c, L, lc, fr, hX.keep b, hl⟩
theorem MM.drew (h : MM T e sz fc w0 wT B hd w st lps) : MM T e sz fc w0 wT B hd w.drew st lps := h.keep (Bel.refl w).drew
theorem MX.mm (h : MX T e sz fc w0 wT B hd w st A c L lc fr) : MM T e sz fc w0 wT B hd w st (fr.map Frm.lp) := ⟨A, c, L, lc, fr, h, rfl⟩
/-- A row of the machine's has been written. -/
theorem own_far {w2 : World} {e : TypeId} {size n : Nat} {v : Value} {xs : List Value} (h1 : wT.grownBy w (some B)) (ho : w.ownsRow wT.heap.size e size v n xs) (hg : w.grownBy w2 v.ownBlock) : wT.grownBy w2 (some B) :=
  h1.andThen hg (fun j hj => .inl (ho.lt j hj).1)
theorem grown_set (hg : wT.grownBy w (some B)) (i : Nat) (u : Value) : wT.grownBy (w.setCell ⟨B, i, none⟩ u) (some B) := by
  refine ⟨hg.os, hg.tape, hg.output, by simpa using hg.size, fun j hj hne => ?_⟩
  rw [Below.heap_setCell _ _ _ _ (fun e => hne (by rw [e]))]
  exact hg.block j hj hne
/-- A cell of the machine's block has been written. -/
theorem MX.put {cs : Array Value} (hB : Blk w B cs T) (hR : Rw e sz fc w wT.heap.size (A, c) (L, lc) st fr) (h0 : w0.heap.size ≤ B) (h1 : B < wT.heap.size) (hb : Bel w0 w) (hg : wT.grownBy w (some B)) (hT1 : T ≠ 3) (hT2 : T ≠ e)
    (i : Nat) (u : Value) (hi : cs.setIfInBounds i u = hd (.slice A st.length c) (.slice L fr.length lc)) : MX T e sz fc w0 wT B hd (w.setCell ⟨B, i, none⟩ u) st A c L lc fr := by
  refine ⟨?_, hR.set hB hT1 hT2 i u, h0, h1, hb.setCell h0 _, grown_set hg i u⟩
  rw [← hi]; exact hB.set i u
theorem MX.set {hd' : Value → Value → Array Value} (h : MX T e sz fc w0 wT B hd w st A c L lc fr) (hT1 : T ≠ 3) (hT2 : T ≠ e) (i : Nat) (u : Value) (hi : (hd (.slice A st.length c) (.slice L fr.length lc)).setIfInBounds i u = hd' (.slice A st.length c) (.slice L fr.length lc)) : MX T e sz fc w0 wT B hd' (w.setCell ⟨B, i, none⟩ u) st A c L lc fr :=
  MX.put h.blk h.rows h.le0 h.lt1 h.bel h.grown hT1 hT2 i u hi
/-- The stack has been appended to; its cell in the machine's block is still the old one. -/
theorem MX.pushed {w2 : World} {A' : Option Addr} {c' : Nat} {a : Int} (h : MX T e sz fc w0 wT B hd w st A c L lc fr) (hT1 : T ≠ 3) (hne : e ≠ 3)
    (ho : w2.ownsRow wT.heap.size 3 1 (.slice A' (st.length + 1) c') (st.length + 1) (st.reverse.map (Value.int .i64) ++ [.int .i64 a])) (hg : w.grownBy w2 (Value.slice A st.length c).ownBlock)
    (hat : (Value.slice A' (st.length + 1) c').ownBlock = (Value.slice A st.length c).ownBlock ∨ (Value.slice A' (st.length + 1) c').ownBlock = some w.heap.size) :
    Blk w2 B (hd (.slice A st.length c) (.slice L fr.length lc)) T ∧ Rw e sz fc w2 wT.heap.size (A', c') (L, lc) (a :: st) fr ∧ Bel w0 w2 ∧ wT.grownBy w2 (some B) := by
  have hS := own_lenI h.rows.stack
  refine ⟨h.blk.grown hg (h.blk.apart hS hT1), h.rows.pushed hne ho hg hat, h.bel.grown hg (fun j hj => ?_), own_far h.grown hS hg⟩
  have := (hS.lt j hj).1
  have := h.le0
  have := h.lt1
  omega
/-- A loop has been appended to the row of loops. -/
theorem MX.pushedL {w2 : World} {L' : Option Addr} {lc' i : Nat} (h : MX T e sz fc w0 wT B hd w st A c L lc fr) (hT2 : T ≠ e) (hne : e ≠ 3)
    (ho : w2.ownsRow wT.heap.size e sz (.slice L' (fr.length + 1) lc') (fr.length + 1) (rowL fc fr ++ fc ⟨i, 0, [], (none, 0)⟩)) (hg : w.grownBy w2 (Value.slice L fr.length lc).ownBlock) :
    Blk w2 B (hd (.slice A st.length c) (.slice L fr.length lc)) T ∧ Rw e sz fc w2 wT.heap.size (A, c) (L', lc') st (⟨i, 0, [], (none, 0)⟩ :: fr) ∧ Bel w0 w2 ∧ wT.grownBy w2 (some B) := by
  have hL : w.ownsRow wT.heap.size e sz (.slice L fr.length lc) fr.length (rowL fc fr) := h.rows.loops
  refine ⟨h.blk.grown hg (h.blk.apart hL hT2), h.rows.pushL hne ho (by rw [hd_own] at hg; exact hg), h.bel.grown hg (fun j hj => ?_), own_far h.grown hL hg⟩
  have := (hL.lt j hj).1
  have := h.le0
  have := h.lt1
  omega
/-- The values of the innermost loop have been appended to, and their cell in the row of loops has been written. -/
theorem MX.setV {w2 : World} {f f' : Frm} {g : Nat} {V : Hd} {a : Int} (h : MX T e sz fc w0 wT B hd w st A c (some ⟨g, 0, none⟩) lc (f :: fr)) (hT1 : T ≠ 3) (hT2 : T ≠ e) (hne : e ≠ 3)
    (ho : OwnM w2 wT.heap.size V (f.vals ++ [a])) (hg : w.grownBy w2 f.hd.blk) (hb : V.blk = f.hd.blk ∨ V.blk = some w.heap.size) (e1 : f'.vals = f.vals ++ [a]) (e2 : f'.hd = V) (j : Nat) (u : Value) (hxs : (rowL fc (f :: fr)).set j u = rowL fc (f' :: fr)) :
    MX T e sz fc w0 wT B hd (w2.setCell ⟨g, j, none⟩ u) st A c (some ⟨g, 0, none⟩) lc (f' :: fr) := by
  obtain ⟨h1, h2, h3⟩ := h.rows.pushV hne ho hg hb
  obtain ⟨k1, k2, k3⟩ := h3 f' e1 e2
  have hV : w.ownsRow wT.heap.size 3 1 (f.hd.val f.vals.length) f.vals.length (f.vals.map (Value.int .i64)) := h.rows.vals f (List.mem_cons_self ..)
  have hg' : w.grownBy w2 (f.hd.val f.vals.length).ownBlock := by rw [Hd.own]; exact hg
  have hB2 := h.blk.grown hg' (h.blk.apart hV hT1)
  have hne2 : B ≠ g := fun e0 => hB2.apart h2 hT2 (by rw [e0]; rfl)
  have hgb := (h2.lt g rfl).1
  have hl0 := h.le0
  have hl1 := h.lt1
  have hG2 := own_far h.grown hV hg'
  have hst : w2.grownBy (w2.setCell ⟨g, j, none⟩ u) (some g) := (World.ownsRow.stored (show w2.ownsRow wT.heap.size e sz (.slice (some ⟨g, 0, none⟩) (fr.length + 1) lc) (fr.length + 1) (rowL fc (f :: fr)) from h2) j u).2
  refine ⟨hB2.other hne2 _, Rw.setL hne h1 h2 k1 k2 k3 j u hxs, hl0, hl1, (h.bel.grown hg' (fun i hi => ?_)).setCell (by dsimp only; omega) _, hG2.andThen hst (fun i hi => by injection hi with hi; subst hi; exact .inl hgb)⟩
  have := (hV.lt i hi).1
  omega
/-- Another cell in the row of loops has been written. -/
theorem MX.setP {f f' : Frm} {g : Nat} (h : MX T e sz fc w0 wT B hd w st A c (some ⟨g, 0, none⟩) lc (f :: fr)) (hT2 : T ≠ e) (hne : e ≠ 3) (e1 : f'.vals = f.vals) (e2 : f'.hd = f.hd) (j : Nat) (u : Value) (hxs : (rowL fc (f :: fr)).set j u = rowL fc (f' :: fr)) :
    MX T e sz fc w0 wT B hd (w.setCell ⟨g, j, none⟩ u) st A c (some ⟨g, 0, none⟩) lc (f' :: fr) := by
  have h2 : w.ownsRow wT.heap.size e sz (.slice (some ⟨g, 0, none⟩) (fr.length + 1) lc) (fr.length + 1) (rowL fc (f :: fr)) := h.rows.loops
  have hne2 : B ≠ g := fun e0 => h.blk.apart h2 hT2 (by rw [e0]; rfl)
  have hgb := (h2.lt g rfl).1
  have hl0 := h.le0
  have hl1 := h.lt1
  have hmem : ∀ x ∈ f' :: fr, ∃ y ∈ f :: fr, x.hd = y.hd ∧ x.vals = y.vals := fun x hx => by
    rcases List.mem_cons.1 hx with rfl | hx
    · exact ⟨f, List.mem_cons_self .., e2, e1⟩
    · exact ⟨x, List.mem_cons_of_mem _ hx, rfl, rfl⟩
  refine ⟨h.blk.other hne2 _, Rw.setL hne h.rows.stack h2 (fun x hx => ?_) (fun x hx => ?_) ?_ j u hxs, hl0, hl1, h.bel.setCell (by dsimp only; omega) _, h.grown.andThen (h2.stored j u).2 (fun i hi => by injection hi with hi; subst hi; exact .inl hgb)⟩
  · obtain ⟨y, hy, q1, q2⟩ := hmem x hx
    rw [q1, q2]; exact h.rows.vals y hy
  · obtain ⟨y, hy, q1, _⟩ := hmem x hx
    rw [q1]; exact h.rows.apS y hy
  · have := h.rows.apF
    rw [List.map_cons] at this ⊢
    rw [e2]; exact this
end
/-- The program's machine, with its place, its stack (top first) and its open loops (the innermost one first). -/
def PX (k : Mc) (w : World) (p : Nat) (st : List Int) (A : Option Addr) (c : Nat) (L : Option Addr) (lc : Nat) (fr : List Frm) : Prop := MX 69 150 2 lpC k.w0 k.wT k.B (machC k p) w st A c L lc fr
def PM (k : Mc) (w : World) (p : Nat) (st : List Int) (lps : List (Nat × List Int)) : Prop := ∃ A c L lc fr, PX k w p st A c L lc fr ∧ lps = fr.map Frm.lp
theorem PX.keep {k : Mc} {w w' : World} {p : Nat} {st : List Int} {A L : Option Addr} {c lc : Nat} {fr : List Frm} (h : PX k w p st A c L lc fr) (b : Bel w w') : PX k w' p st A c L lc fr := MX.keep h b
theorem PX.drew {k : Mc} {w : World} {p : Nat} {st : List Int} {A L : Option Addr} {c lc : Nat} {fr : List Frm} (h : PX k w p st A c L lc fr) : PX k w.drew p st A c L lc fr := MX.drew h
theorem PM.keep {k : Mc} {w w' : World} {p : Nat} {st : List Int} {lps : List (Nat × List Int)} (h : PM k w p st lps) (b : Bel w w') : PM k w' p st lps := by
  obtain ⟨A, c, L, lc, fr, hX, hl⟩ := h
  exact ⟨A, c, L, lc, fr, hX.keep b, hl⟩
theorem PM.drew {k : Mc} {w : World} {p : Nat} {st : List Int} {lps : List (Nat × List Int)} (h : PM k w p st lps) : PM k w.drew p st lps := h.keep (Bel.refl w).drew
def RetM (k : Mc) (p : Nat) (st : List Int) (lps : List (Nat × List Int)) (e : Ending) (w' : World) : Prop := ∃ v, e = .returned v ∧ PM k w' p st lps
def RetX (k : Mc) (p : Nat) (st : List Int) (L : Option Addr) (lc : Nat) (fr : List Frm) (e : Ending) (w' : World) : Prop := ∃ v A c, e = .returned v ∧ PX k w' p st A c L lc fr
set_option maxHeartbeats 400000 in
theorem mPushX_any (k : Mc) (w : World) (p : Nat) (st : List Int) (A : Option Addr) (c : Nat) (L : Option Addr) (lc : Nat) (fr : List Frm) (a : Int) (h : PX k w p st A c L lc fr) (hn : st.length ≤ 1000000) :
    Calls Tryz.prog 54 #[.pointer (some ⟨k.B, 0, none⟩), .int .i64 a] w (RetX k p (a :: st) L lc fr) := by
  have hc := h.blk.cell 6 (v := .slice A st.length c) rfl
  have hf := h.blk.frozen 6
  have hlt := h.blk.lt
  have hbs := h.grown.size
  have hle := h.le0
  have hlt1 := h.lt1
  have H := Lib.hid h
  obtain ⟨i0, hi0, hz0, hz1, hz2⟩ := info_parts int_info
  clear h
  go_enter Tryz.func54, Tryz.ntmps54
  go_wp2_with (at_builtin; refine wpList_push _ rfl (.tmp 8) (.tmp 10) 27 rfl k.wT.heap.size 3 i0 (.int .i64 0) 1 8 Tryz.underlying27 hi0 hz0 hz1 hz2 rfl (by decide) A st.length c (st.reverse.map (Value.int .i64)) (by simp [Act.eval]) ((own_lenI H.out.rows.stack).alloc _) w.heap.size #[.int .i64 a] 3 (0, 0) (by simp [Act.eval]) (heap_new _ _) rfl (one_int _ _) (by unfold maxLen; omega) (by omega) (by simp; omega) ?_; intro A' c' w2 hown2 hgr2 hat2; have H2 := Lib.hid ((MX.keep H.out ((Bel.refl w).alloc _)).pushed (by decide) (by decide) hown2 hgr2 hat2); have hc2 := H2.out.1.cell 6 (v := .slice A st.length c) rfl; have hf2 := H2.out.1.frozen 6; have hlt2 := H2.out.1.lt; clear hown2 hgr2 hat2)
  go_end0
  exact ⟨_, A', c', rfl, MX.put H2.out.1 H2.out.2.1 hle hlt1 H2.out.2.2.1 H2.out.2.2.2 (by decide) (by decide) 6 _ rfl⟩
theorem mPush_any (k : Mc) (w : World) (p : Nat) (st : List Int) (lps : List (Nat × List Int)) (a : Int) (h : PM k w p st lps) (hn : st.length ≤ 1000000) :
    Calls Tryz.prog 54 #[.pointer (some ⟨k.B, 0, none⟩), .int .i64 a] w (RetM k p (a :: st) lps) := by
  obtain ⟨A, c, L, lc, fr, hX, rfl⟩ := h
  refine (mPushX_any k w p st A c L lc fr a hX hn).mono ?_
  rintro e w' ⟨v, A', c', rfl, h'⟩
  exact ⟨v, rfl, A', c', L, lc, fr, h', rfl⟩

end Go.Proofs.YtaifafljakojnaaGreat

/- Contracts: the methods of the program's machine: pop, port, load, near, fact, unary, binary, otherwise, jump. -/
namespace Go.Proofs.YtaifafljakojnaaGreat
open Go.RowKit

set_option maxHeartbeats 400000 in
theorem mPopX_any (k : Mc) (w : World) (p : Nat) (a : Int) (st : List Int) (A : Option Addr) (c : Nat) (L : Option Addr) (lc : Nat) (fr : List Frm) (h : PX k w p (a :: st) A c L lc fr) (hn : st.length ≤ 1000000) :
    Calls Tryz.prog 29 #[.pointer (some ⟨k.B, 0, none⟩)] w fun e w' => e = .returned (.int .i64 a) ∧ PX k w' p st A c L lc fr := by
  have ho := own_lenI h.rows.stack
  obtain ⟨g, rfl, hg0, hgl, hcell, _⟩ := own_at (j := st.length) (u := .int .i64 a) ho (by simp [List.map_append])
  have hcap := (own_cap ho).1
  have hcm := (own_cap ho).2
  unfold maxLen at hcm
  have hc := h.blk.cell 6 (v := .slice (some ⟨g, 0, none⟩) (st.length + 1) c) rfl
  have hf := h.blk.frozen 6
  have hlt := h.blk.lt
  obtain ⟨i0, hi0, hz0, hz1, hz2⟩ := info_parts int_info
  have hcc : st.length ≤ c := by simp at hcap; omega
  have hup := run_upto (P := Tryz.prog) Tryz.underlying27 hi0 (some ⟨g, 0, none⟩) (st.length + 1) c st.length hcc
  have H := Lib.hid h
  clear h ho hcap hi0 hz0 hz1 hz2
  go_enter Tryz.func29, Tryz.ntmps29
  go_wp2
  go_ret
  exact ⟨rfl, MX.put H.out.blk H.out.rows.pop H.out.le0 H.out.lt1 H.out.bel H.out.grown (by decide) (by decide) 6 _ rfl⟩
theorem mPop_any (k : Mc) (w : World) (p : Nat) (a : Int) (st : List Int) (lps : List (Nat × List Int)) (h : PM k w p (a :: st) lps) (hn : st.length ≤ 1000000) :
    Calls Tryz.prog 29 #[.pointer (some ⟨k.B, 0, none⟩)] w fun e w' => e = .returned (.int .i64 a) ∧ PM k w' p st lps := by
  obtain ⟨A, c, L, lc, fr, hX, rfl⟩ := h
  refine (mPopX_any k w p a st A c L lc fr hX hn).mono ?_
  rintro e w' ⟨rfl, h'⟩
  exact ⟨rfl, A, c, L, lc, fr, h', rfl⟩

theorem rowL_last (fc : Frm → List Value) (sz : Nat) (hfc : ∀ f, (fc f).length = sz) (f : Frm) (fr : List Frm) (j : Nat) : (rowL fc (f :: fr))[fr.length * sz + j]? = (fc f)[j]? := by
  rw [rowL_cons, List.getElem?_append_right (by rw [rowL_length hfc]; omega), rowL_length hfc]
  congr 1
  omega
set_option maxHeartbeats 400000 in
theorem mPort_any (k : Mc) (w : World) (p : Nat) (st : List Int) (lps : List (Nat × List Int)) (x : Int) (h : PM k w p st lps) (hx : portM ⟨p, st, lps⟩ = x) (hn : lps.length ≤ 1000000) :
    Calls Tryz.prog 111 #[.pointer (some ⟨k.B, 0, none⟩)] w fun e w' => e = .returned (.int .i64 x) ∧ Bel w w' := by
  obtain ⟨A, c, L, lc, fr, ⟨hB, hR, h0, h1, hb, hg⟩, rfl⟩ := h
  rw [List.length_map] at hn
  cases fr with
  | nil =>
    have hc := hB.cell 7 (v := .slice L 0 lc) rfl
    have hlt := hB.lt
    have HX : Hid (x = -1) := hx.symm
    clear hB hR hb hg hx
    go_enter Tryz.func111, Tryz.ntmps111
    go_wp2
    go_ret
    exact ⟨ret_int HX.out.symm, Bel.refl w⟩
  | cons f fr =>
    have hlo := hR.loops
    obtain ⟨g, rfl, hg0, hgl, hcell, _⟩ := own_at (j := fr.length * 2 + 1) (u := .slice f.hd.1 f.vals.length f.hd.2) hlo (by rw [rowL_last lpC 2 lpC_len f fr 1]; rfl)
    have hc := hB.cell 7 (v := .slice (some ⟨g, 0, none⟩) (fr.length + 1) lc) rfl
    have hlt := hB.lt
    have HX : Hid (x = (f.vals.length : Int)) := hx.symm
    have hmx := own_cap hlo
    unfold maxLen at hmx
    rw [List.length_cons] at hn
    have hd : (((fr.length : Int) + 1) == 0) = false := by simp; omega
    have hw1 : IntKind.i64.wrap ((fr.length : Int) + 1 - 1) = fr.length := by rw [IntWalk.i64_in _ (by omega)]; omega
    clear hB hR hb hg hx hlo hmx
    go_enter Tryz.func111, Tryz.ntmps111
    go_wp2
    go_quiet (fail)
    go_wp2
    go_ret
    exact ⟨ret_int HX.out.symm, (Bel.refl w).drewN _⟩

/-- What the machine's slices read as. -/
def McR (k : Mc) (p : Prg) (g : Graph) (c : Config) (l : List Term) : Prop :=
  TermsR k.w0 k.L k.nL l ∧ SceneR k.w0 k.Bs p g ∧ LinksR k.w0 k.K k.nK (g.ports.getD k.v []) ∧ RowsR k.w0 k.C k.nC c
theorem PM.cells {k : Mc} {w : World} {p : Nat} {st : List Int} {lps : List (Nat × List Int)} (h : PM k w p st lps) :
    w.cell? ⟨k.B, 0, none⟩ = some (.slice k.L k.nL k.cL) ∧ w.cell? ⟨k.B, 1, none⟩ = some (.pointer (some ⟨k.Bs, 0, none⟩)) ∧ w.cell? ⟨k.B, 2, none⟩ = some (.slice k.K k.nK k.cK) ∧ w.cell? ⟨k.B, 3, none⟩ = some (.slice k.C k.nC k.cC) ∧ w.cell? ⟨k.B, 4, none⟩ = some (.int .i64 k.v) ∧ w.cell? ⟨k.B, 5, none⟩ = some (.int .i64 p) ∧ w.frozen? ⟨k.B, 5, none⟩ = false ∧ k.B < w.heap.size ∧ Bel k.w0 w := by
  obtain ⟨A, c, L, lc, fr, ⟨hB, hR, h0, h1, hb, hg⟩, rfl⟩ := h
  exact ⟨hB.cell 0 rfl, hB.cell 1 rfl, hB.cell 2 rfl, hB.cell 3 rfl, hB.cell 4 rfl, hB.cell 5 rfl, hB.frozen 5, hB.lt, hb⟩

set_option maxRecDepth 100000 in
set_option maxHeartbeats 1000000 in
theorem mLoad_any (k : Mc) (pr : Prg) (g : Graph) (c : Config) (l : List Term) (hK : McR k pr g c l) (hs : SOK pr g c k.v) (w : World) (p : Nat) (st : List Int) (lps : List (Nat × List Int)) (a : Int) (h : PM k w p st lps) (hn : st.length ≤ 1000000) (ha : 0 ≤ a ∧ a < pr.vars.length) :
    Calls Tryz.prog 55 #[.pointer (some ⟨k.B, 0, none⟩), .int .i64 a] w (RetM k p ((c.getD k.v []).getD a.toNat 0 :: st) lps) := by
  obtain ⟨q, rfl⟩ := Int.eq_ofNat_of_zero_le ha.1
  have hv := hs.node
  have hvc : k.v < c.length := by rw [hs.len]; exact hv
  have hac : q < c[k.v].length := by rw [hs.row hv]; omega
  obtain ⟨b1, o1, R, rc, hCA, hb1, hrow, hR, _, _⟩ := RowsAt.at_ hK.2.2.2 k.v hvc
  obtain ⟨b2, o2, rfl, hb2, hval⟩ := IntsR.at_ hR q hac
  have hnC : k.nC = c.length := hK.2.2.2.1.symm
  have hdv : decide (k.v < c.length) = true := by simpa using hvc
  have hda : decide (q < c[k.v].length) = true := by simpa using hac
  have HE : Hid (c[k.v][q] = (c.getD k.v []).getD (q : Int).toNat 0) := by
    show c[k.v][q] = (c.getD k.v []).getD (q : Int).toNat 0
    rw [Int.toNat_natCast, getD_eq hvc, getD_eq hac]
  rw [← HE.out]
  have HM := h.drew
  have hcell := Lib.hid (fun (w' : World) p' st' lps' (hm : PM k w' p' st' lps') => show w'.cell? ⟨k.B, 3, none⟩ = some (.slice (some ⟨b1, o1, none⟩) c.length k.cC) ∧ w'.cell? ⟨k.B, 4, none⟩ = some (.int .i64 k.v) ∧ w'.cell? ⟨b1, o1 + k.v, none⟩ = some (.slice (some ⟨b2, o2, none⟩) c[k.v].length rc) ∧ w'.cell? ⟨b2, o2 + q, none⟩ = some (.int .i64 c[k.v][q]) ∧ k.B < w'.heap.size from by
    obtain ⟨_, _, _, m3, m4, _, _, ml, mb⟩ := hm.cells
    rw [hCA, hnC] at m3
    exact ⟨m3, m4, (mb.cell hb1).trans hrow, (mb.cell hb2).trans hval, ml⟩)
  clear h hK hs hR hnC hCA hrow hval ha HE
  go_enter Tryz.func55, Tryz.ntmps55
  go_wp2_with fail
  go_region_held3 (fun w' => w'.cell? ⟨k.B, 3, none⟩ = some (.slice (some ⟨b1, o1, none⟩) c.length k.cC) ∧ w'.cell? ⟨k.B, 4, none⟩ = some (.int .i64 k.v) ∧ w'.cell? ⟨b1, o1 + k.v, none⟩ = some (.slice (some ⟨b2, o2, none⟩) c[k.v].length rc) ∧ w'.cell? ⟨b2, o2 + q, none⟩ = some (.int .i64 c[k.v][q]) ∧ k.B < w'.heap.size) (exact hcell.out _ _ _ _ HM)
    (first | (go_simp; go_at_call 54; refine (mPush_any k _ p st lps _ HM hn).mono ?_; rintro e w' ⟨v, rfl, hm⟩; replace HM := hm))
  go_wp2_with fail
  go_end0
  exact ⟨_, rfl, HM⟩

end Go.Proofs.YtaifafljakojnaaGreat

/- A drawn region whose last operation may write what the others read: the chain of what waits is reckoned. -/
namespace Go.Proofs.YtaifafljakojnaaGreat
open Go.RowKit

def nextOf (md : Region.Mode) (ops : Array Oper) (i : Nat) : Option Nat :=
  (List.range ops.size).find? fun j => match ops[j]? with | some o => o.after.any (fun e => Region.binds md e && e.on == i) | none => false
def chainF (md : Region.Mode) (ops : Array Oper) (L : Nat) : Nat → Nat → List Nat
  | 0, _ => []
  | n + 1, i => match nextOf md ops i with | none => [] | some j => j :: (if j == L then [] else chainF md ops L n j)
theorem AnyE.takeC {P : Program} {ops : Array Oper} {Q : Exit → Act → World → Prop} {md : Region.Mode} {S : World → Prop} {L : Nat} {i : Nat} {oi : Oper} {v : Value} {fuel : Nat} {listed : Array Bool} {a : Act} {w : World} (d : Option Tmp) (hi : ops[i]? = some oi) (hd : oi.dst = d)
    (hs : Region.noSelect ops = true) (hf : Region.free md ops listed i = true) (hr : (Region.ready md ops listed).contains i = true)
    (hc : ((chainF md ops L 60 i).contains L && waits md ops i (chainF md ops L 60 i) && unlisted listed (chainF md ops L 60 i)) = true)
    (hQ : ∀ c a w, Q (.panic c) (a.put d v) w → Q (.panic c) a w) (hS : S w) (hy : YieldsIf P ops S oi v a)
    (h : AnyE P md ops Q S L fuel (listed.setIfInBounds i true) (a.put d v) w) : AnyE P md ops Q S L (fuel + 1) listed a w := by
  rw [Bool.and_eq_true, Bool.and_eq_true] at hc
  exact AnyE.take (chainF md ops L 60 i) d hi hd hs hf hr hc.1.1 hc.1.2 hc.2 hQ hS hy h

end Go.Proofs.YtaifafljakojnaaGreat

