/- Merged of: PDb PDc WRb WRc (see NOTES.md). -/
import Derived.Test.YtgemlgpjbclonaaGreatDoorZ24
import Derived.Test.YtgemlgpjbclonaaGreatDoorZ22
set_option linter.unusedSimpArgs false
set_option linter.unnecessarySimpa false
set_option linter.unusedVariables false

/- What the reference's daemons say, plain: the same as the program's. -/
namespace Go.Proofs.YtgemlgpjbclonaaGreatDoor

theorem mem_parts_low {E l : Nat} (hE : E < 4294967296) (h : l ∈ partsFrom E (lsb E)) : l ≠ 0 ∧ l &&& E = l ∧ l < 4294967296 := by
 by_cases h0 : E = 0
 ·subst h0
  rw [lsb_zero, partsFrom_zero] at h; cases h
 ·have hm := (mem_partsFrom hE (E - lsb E + 1) (lsb E) (by omega) lsb_part (lsb_ne hE h0) l).1 h
  have h1 := lsb_ne hE h0
  have h2 := partW_le hm.2
  exact ⟨by omega, hm.2, by omega⟩
theorem within_bound {E n : Nat} (hn : n ≤ 32) (hE : E < 2 ^ n) : within32 E (setF n fun _ => true) = true := by
 have h32 : E < 4294967296 := Nat.lt_of_lt_of_le hE (Nat.pow_le_pow_right (n := 2) (by decide) hn)
 rw [within_all hn h32]
 intro v hv
 rcases Nat.lt_or_ge v n with h | h
 ·exact h
 ·have e : 2 ^ n ≤ 2 ^ v := Nat.pow_le_pow_right (by decide) h
  rw [Nat.testBit_lt_two_pow (Nat.lt_of_lt_of_le hE e)] at hv; cases hv
theorem within_trans {A B C : Nat} (h : within32 A B = true) (k : within32 B C = true) : within32 A C = true := by
 rw [within32_iff] at *
 exact fun v hv hA => k v hv (h v hv hA)
/-- Whether a part is among the choices, as the reference asks it. -/
theorem permits_ref {g : Graph} (hg : GOK g) {kind : Int} {E l : Nat} (hE : E < 2 ^ g.ports.length) (hl : l ∈ partsFrom E (lsb E)) (hk : kind = 2 ∨ kind = 3) :
  permitsF g kind E l = (decide (kind = 3) || nbrF g l &&& l == 0) := by
 have hle := hg.le
 have h32 : E < 4294967296 := Nat.lt_of_lt_of_le hE (Nat.pow_le_pow_right (n := 2) (by decide) (show g.ports.length ≤ 32 by omega))
 obtain ⟨h0, hp, hl32⟩ := mem_parts_low h32 hl
 have hw := (part_within hl32 h32).1 hp
 unfold permitsF
 rw [if_neg h0, hw, if_neg (by decide)]
 rcases hk with rfl | rfl
 ·rw [if_neg (by decide), if_pos rfl, ← nbr_same hg hl32 (within_trans hw (within_bound (by omega) hE))]; simp
 ·rw [if_neg (by decide), if_neg (by decide), if_neg (by decide)]; simp
theorem choices_ref {g : Graph} (hg : GOK g) {kind : Int} {E : Nat} (hE : E < 2 ^ g.ports.length) (hk : kind = 2 ∨ kind = 3) :
  (partsFrom E (lsb E)).filter (permitsF g kind E) = (partsFrom E (lsb E)).filter fun l => decide (kind = 3) || nbrF g l &&& l == 0 :=
 List.filter_congr fun _ hl => permits_ref hg hE hl hk
/-- The choices of the reference. -/
def choicesR (g : Graph) (kind : Int) (E : Nat) : List Nat × Int :=
 if kind = 1 then (((List.range g.ports.length).filter (E.testBit ·)).map (2 ^ ·), 0)
 else if kind = 4 then (if E = 0 then [] else [E], 0)
 else if 10 < (elemsF E).length then ([], 3)
 else ((partsFrom E (lsb E)).filter (fun l => decide (kind = 3) || nbrF g l &&& l == 0), 0)
theorem choices_same {g : Graph} (hg : GOK g) {kind : Int} (hk : kindB kind = true) {E : Nat} (hE : E < 2 ^ g.ports.length) : choicesR g kind E = choicesF g kind E := by
 have hle := hg.le
 unfold kindB at hk
 simp at hk
 unfold choicesR choicesF
 by_cases h1 : kind = 1
 ·rw [if_pos h1, if_pos h1, ← elemsF_upto (by omega) hE]
  by_cases h0 : E = 0
  ·subst h0; rw [if_pos rfl, elemsF_zero]; rfl
  ·rw [if_neg h0]
 rw [if_neg h1, if_neg h1]
 by_cases h4 : kind = 4
 ·rw [if_pos h4, if_pos h4]
  by_cases h0 : E = 0
  ·rw [if_pos h0, if_pos h0]
  ·rw [if_neg h0, if_neg h0]
 rw [if_neg h4, if_neg h4, choices_ref hg hE (by omega)]
 by_cases h0 : E = 0
 ·subst h0; rw [if_pos rfl, elemsF_zero, if_neg (by simp), lsb_zero, partsFrom_zero]; rfl
 ·rw [if_neg h0]

end Go.Proofs.YtgemlgpjbclonaaGreatDoor

/- The rows of neighbours as they are filled, plain. -/
namespace Go.Proofs.YtgemlgpjbclonaaGreatDoor

def netVals (g : Graph) (v s : Nat) : List Value := (List.range g.ports.length).map fun u => Value.int .u32 ((if u < v then netV g u else if u = v then s else 0 : Nat) : Int)
theorem netVals_zero (g : Graph) : netVals g 0 0 = List.replicate g.ports.length (.int .u32 0) := by
 apply List.ext_getElem
 ·simp [netVals]
 ·intro i h1 h2
  simp [netVals]
theorem netVals_set (g : Graph) {v : Nat} (_ : v < g.ports.length) (s s' : Nat) : (netVals g v s).set v (.int .u32 (s' : Int)) = netVals g v s' := by
 apply List.ext_getElem
 ·simp [netVals]
 ·intro i h1 h2
  rw [List.getElem_set]
  by_cases h : v = i
  ·subst h; rw [if_pos rfl]; simp [netVals]
  ·rw [if_neg h]
   simp only [netVals, List.getElem_map, List.getElem_range]
   by_cases hi : i < v
   ·rw [if_pos hi, if_pos hi]
   ·rw [if_neg hi, if_neg hi, if_neg (fun e => h e.symm), if_neg (fun e => h e.symm)]
theorem netVals_next (g : Graph) (v : Nat) : netVals g v (netV g v) = netVals g (v + 1) 0 := by
 unfold netVals
 refine List.map_congr_left fun u _ => ?_
 by_cases h : u < v
 ·rw [if_pos h, if_pos (by omega)]
 ·rw [if_neg h]
  by_cases h2 : u = v
  ·subst h2; rw [if_pos rfl, if_pos (by omega)]
  ·rw [if_neg h2, if_neg (by omega)]
   split <;> rfl
theorem netVals_at (g : Graph) {v : Nat} (hv : v < g.ports.length) (s : Nat) : (netVals g v s)[v]? = some (.int .u32 (s : Int)) := by
 unfold netVals
 rw [List.getElem?_map, List.getElem?_range hv]; simp
theorem netVals_full (g : Graph) (s : Nat) {u : Nat} (hu : u < g.ports.length) : (netVals g g.ports.length s)[u]? = some (.int .u32 (netV g u : Int)) := by
 unfold netVals
 rw [List.getElem?_map, List.getElem?_range hu]; simp [hu]
theorem netL_take {ls : List Link} {i : Nat} (hi : i < ls.length) : netL (ls.take (i + 1)) = netL (ls.take i) ||| 2 ^ ls[i].to.toNat := by
 rw [List.take_succ_eq_append_getElem hi, netL_snoc]

end Go.Proofs.YtgemlgpjbclonaaGreatDoor

/- Contracts: the neighbours of all nodes, the program's. -/
namespace Go.Proofs.YtgemlgpjbclonaaGreatDoor
open Go.RowKit

theorem u32_info : (Tryz.prog.info? 45).map (fun i => (i.zero, i.size, i.bytes)) = some (some (.int .u32 0), 1, 4) := by kernel_rfl
def RetNet (g : Graph) (w : World) (e : Ending) (w' : World) : Prop := ∃ A c, e = .returned (.slice A g.ports.length c) ∧ NetR w' A g ∧ g.ports.length ≤ c ∧ c ≤ maxLen ∧ Bel w w'
theorem own_net {w : World} {base gb c s : Nat} {e : TypeId} {g : Graph} (h : w.ownsRow base e 1 (.slice (some ⟨gb, 0, none⟩) g.ports.length c) g.ports.length (netVals g g.ports.length s)) : NetR w (some ⟨gb, 0, none⟩) g := by
 refine ⟨by simp [netsF], fun i x hx => ?_⟩
 have hi : i < g.ports.length := by have := (List.getElem?_eq_some_iff.1 hx).1; simpa [netsF] using this
 obtain ⟨q, e1, _, q3, q4, _⟩ := own_at h (netVals_full g s hi)
 refine ⟨q, 0, e1, q3, ?_⟩
 have : x = netV g i := by
  have := (List.getElem?_eq_some_iff.1 hx).2
  simpa [netsF] using this.symm
 subst this
 simpa [MaskAt] using q4
set_option maxRecDepth 100000 in
set_option maxHeartbeats 4000000 in
theorem newNet_any (v2 : Value) (g : Graph) (w : World) (h2 : GraphV w v2 g) (hg : GOK g) :
  Calls Tryz.prog 65 #[v2] w (RetNet g w) := by
 have hP : ∃ A k A2 k2, v2 = .agg #[.slice A g.ids.length k, .slice A2 g.ports.length k2] ∧ PortsR w A2 g.ports.length g.ports := by
  obtain ⟨A, k, A2, k2, e, _, _, _, hP, _⟩ := h2
  exact ⟨A, k, A2, k2, e, hP⟩
 obtain ⟨A3, k3, A4, k4, rfl, hP⟩ := hP
 have HP := Lib.hid (fun w' (k : Bel w w') => PortsR.keep hP k)
 have HG := Lib.hid hg
 have hn : g.ports.length ≤ 24 := hg.le
 obtain ⟨i0, hi0, hz0, hz1, hz2⟩ := info_parts u32_info
 have HW := Bel.refl (w.alloc (.cells #[.slice A3 g.ids.length k3, .slice A4 g.ports.length k4] 29))
 clear h2 hP hg
 go_enter Tryz.func65, Tryz.ntmps65
 go_wp2_with (at_make; refine wpList_make _ rfl 76 (.tmp 10) (.tmp 10) rfl (w.heap.size + 1) 45 i0 (.int .u32 0) 1 Tryz.underlying76 hi0 hz0 hz1 .i64 .i64 g.ports.length rfl rfl (by rw [hz2]; omega) (by unfold maxLen; omega) (by simp) ?_; intro gb w1 hown hb; have HW := hb; rw [made_one _ rfl] at hown; have HO := Lib.hid hown; clear hown hb; have q1 := box_cell HW 1 (v := .slice A4 g.ports.length k4) rfl; have q2 := box_lt HW)
 have hgb1 := (own_base HO.out).1
 have HO0 : Hid (w1.ownsRow (w.heap.size + 1) 45 1 (.slice (some ⟨gb, 0, none⟩) g.ports.length g.ports.length) g.ports.length (netVals g 0 0)) := by
  show World.ownsRow _ _ _ _ _ _ _
  rw [netVals_zero]; exact HO.out
 clear HO q1 q2
 go_loopg [4, 5, 7, 15] g.ports.length (fun m _x _y _z z wr => ∃ v : Nat, v ≤ g.ports.length ∧ m = g.ports.length - v ∧ z = .int .i64 v ∧ Hid (wr.ownsRow (w.heap.size + 1) 45 1 (.slice (some ⟨gb, 0, none⟩) g.ports.length g.ports.length) g.ports.length (netVals g v 0)) ∧ Bel (w.alloc (.cells #[.slice A3 g.ids.length k3, .slice A4 g.ports.length k4] 29)) wr)
 case atStart => exact ⟨0, by omega, rfl, rfl, HO0, HW⟩
 case round =>
  clear HO0 HW
  obtain ⟨wo, rfl⟩ : ∃ wo : World, wo = wr := ⟨_, rfl⟩
  obtain ⟨v, hv, rfl, rfl, HO, HW⟩ := hrel
  by_cases hlt : v < g.ports.length
  ·have hd0 : decide (v < g.ports.length) = true := by simpa using hlt
   obtain ⟨b, o, R, rc, rfl, hb, hrow, hL, _, _⟩ := (HP.out _ (box_bel HW)).at_ v hlt
   have HL := Lib.hid (fun w' (k : Bel w w') => LinksR.keep (by
    obtain ⟨b', o', R', rc', e1, hb', hrow', hL', _, _⟩ := (HP.out _ (Bel.refl w)).at_ v hlt
    have hb0 := box_bel HW
    rw [← hb0.cell hb'] at hrow'
    obtain ⟨rfl, rfl⟩ : b = b' ∧ o = o' := by simpa using e1
    rw [hrow] at hrow'
    injection hrow' with hrow'
    injection hrow' with e2 _ _
    subst e2
    exact hL') k)
   clear hL
   go_wp2_with fail
   have HO0 := Lib.hid HO.out
   have hll := linksOK_len hlt (HG.out.links v hlt)
   go_loopg [7, 22] g.ports[v].length (fun m _x z ws => ∃ i : Nat, i ≤ g.ports[v].length ∧ m = g.ports[v].length - i ∧ z = .int .i64 i ∧ Hid (ws.ownsRow (w.heap.size + 1) 45 1 (.slice (some ⟨gb, 0, none⟩) g.ports.length g.ports.length) g.ports.length (netVals g v (netL (g.ports[v].take i)))) ∧ Bel (w.alloc (.cells #[.slice A3 g.ids.length k3, .slice (some ⟨b, o, none⟩) g.ports.length k4] 29)) ws)
   case atStart => exact ⟨0, by omega, rfl, rfl, HO0, HW⟩
   case round =>
    clear HO HO0 HW hrow hb
    obtain ⟨i, hi, rfl, rfl, HO, HW⟩ := hrel
    by_cases hlt2 : i < g.ports[v].length
    ·have hd2 : decide (i < g.ports[v].length) = true := by simpa using hlt2
     obtain ⟨b1, o1, rfl, hb1, c0, c1⟩ := (HL.out _ (box_bel HW)).at_ i hlt2
     obtain ⟨t0, t1⟩ := link_to HG.out hlt (List.getElem_mem hlt2)
     have HTK := Lib.hid (netL_take hlt2)
     have hsl : netL (g.ports[v].take i) < 4294967296 := netL_lt fun l hl => by
      have := link_to HG.out hlt (List.mem_of_mem_take hl)
      omega
     obtain ⟨u, hu⟩ := Int.eq_ofNat_of_zero_le t0
     rw [hu, Int.toNat_natCast] at HTK
     rw [hu] at c0 t1
     have hu32 : u < 32 := by omega
     have hu32' : decide (u < 32) = true := by simpa using hu32
     obtain ⟨ql, q3, q4, q5, q6, q7⟩ := own_at HO.out (netVals_at g hlt (netL (g.ports[v].take i)))
     obtain rfl : gb = ql := by simpa using q3
     have hbs := bits_set hsl hu32
     rw [← HTK.out] at hbs
     clear t0 hu q3
     go_wp2_with fail
     have hsz := HW.size
     refine AnyE.start (fun w' => w'.cell? ⟨gb, v, none⟩ = some (.int .u32 (netL (g.ports[v].take i) : Int)) ∧ w'.frozen? ⟨gb, v, none⟩ = false ∧ w'.cell? ⟨wr.heap.size, 0, none⟩ = some (.int .i64 (u : Int)) ∧ gb < w'.heap.size ∧ wr.heap.size < w'.heap.size) 9 (by kernel_rfl) ?_
     have hHeld : (fun w' : World => w'.cell? ⟨gb, v, none⟩ = some (.int .u32 (netL (g.ports[v].take i) : Int)) ∧ w'.frozen? ⟨gb, v, none⟩ = false ∧ w'.cell? ⟨wr.heap.size, 0, none⟩ = some (.int .i64 (u : Int)) ∧ gb < w'.heap.size ∧ wr.heap.size < w'.heap.size) (wr.alloc (.cells #[.int .i64 (u : Int), .int .i64 (g.ports[v][i]).weight] 112)).drew := by
      refine ⟨?_, ?_, ?_, ?_, ?_⟩ <;> go_simp <;> try omega
     (refine AnyE.t (v := ?_) 0 26 rfl rfl (by kernel_rfl) (fun _ _ _ h => h) hHeld (Or.inl ⟨by rfl, ?_⟩) ?_; rotate_left 1; focus (intro w' hSw; (try dsimp only at hSw); go_simp; (try with_reducible rfl); done); (try simp only [Act.put, List.setIfInBounds_toArray, List.set_cons_zero, List.set_cons_succ])); (refine AnyE.t (v := ?_) 1 27 rfl rfl (by kernel_rfl) (fun _ _ _ h => h) hHeld (Or.inl ⟨by rfl, ?_⟩) ?_; rotate_left 1; focus (intro w' hSw; (try dsimp only at hSw); go_simp; (try with_reducible rfl); done); (try simp only [Act.put, List.setIfInBounds_toArray, List.set_cons_zero, List.set_cons_succ])); (refine AnyE.t (v := ?_) 2 28 rfl rfl (by kernel_rfl) (fun _ _ _ h => h) hHeld (Or.inl ⟨by rfl, ?_⟩) ?_; rotate_left 1; focus (intro w' hSw; (try dsimp only at hSw); go_simp; (try with_reducible rfl); done); (try simp only [Act.put, List.setIfInBounds_toArray, List.set_cons_zero, List.set_cons_succ])); (refine AnyE.t (v := ?_) 3 29 rfl rfl (by kernel_rfl) (fun _ _ _ h => h) hHeld (Or.inl ⟨by rfl, ?_⟩) ?_; rotate_left 1; focus (intro w' hSw; (try dsimp only at hSw); go_simp; (try with_reducible rfl); done); (try simp only [Act.put, List.setIfInBounds_toArray, List.set_cons_zero, List.set_cons_succ])); (refine AnyE.t (v := ?_) 4 30 rfl rfl (by kernel_rfl) (fun _ _ _ h => h) hHeld (Or.inl ⟨by rfl, ?_⟩) ?_; rotate_left 1; focus (intro w' hSw; (try dsimp only at hSw); go_simp; (try with_reducible rfl); done); (try simp only [Act.put, List.setIfInBounds_toArray, List.set_cons_zero, List.set_cons_succ])); (refine AnyE.t (v := ?_) 5 31 rfl rfl (by kernel_rfl) (fun _ _ _ h => h) hHeld (Or.inl ⟨by rfl, ?_⟩) ?_; rotate_left 1; focus (intro w' hSw; (try dsimp only at hSw); go_simp; (try with_reducible rfl); done); (try simp only [Act.put, List.setIfInBounds_toArray, List.set_cons_zero, List.set_cons_succ])); (refine AnyE.t (v := ?_) 6 32 rfl rfl (by kernel_rfl) (fun _ _ _ h => h) hHeld (Or.inl ⟨by rfl, ?_⟩) ?_; rotate_left 1; focus (intro w' hSw; (try dsimp only at hSw); go_simp; (try with_reducible rfl); done); (try simp only [Act.put, List.setIfInBounds_toArray, List.set_cons_zero, List.set_cons_succ])); (refine AnyE.t (v := ?_) 7 33 rfl rfl (by kernel_rfl) (fun _ _ _ h => h) hHeld (Or.inl ⟨by rfl, ?_⟩) ?_; rotate_left 1; focus (intro w' hSw; (try dsimp only at hSw); go_simp; (try with_reducible rfl); done); (try simp only [Act.put, List.setIfInBounds_toArray, List.set_cons_zero, List.set_cons_succ])); (refine AnyE.t (v := ?_) 8 34 rfl rfl (by kernel_rfl) (fun _ _ _ h => h) hHeld (Or.inl ⟨by rfl, ?_⟩) ?_; rotate_left 1; focus (intro w' hSw; (try dsimp only at hSw); go_simp; (try with_reducible rfl); done); (try simp only [Act.put, List.setIfInBounds_toArray, List.set_cons_zero, List.set_cons_succ]))
     (refine AnyE.one (i := 9) (by kernel_rfl) rfl (fun K hK => ?_)); go_simp; refine hK.out _ _ (fun h => absurd rfl h) ?_; clear hK K; refine AnyE.done (by kernel_rfl) ?_ _; (try simp only [Act.put, List.setIfInBounds_toArray, List.set_cons_zero, List.set_cons_succ])
     go_wp2_with fail
     go_roundg (g.ports[v].length - (i + 1))
     case rel =>
      refine ⟨i + 1, by omega, rfl, by go_num, ?_, ?_⟩
      ·have := (((HO.out.stored v (.int .u32 (netL (g.ports[v].take (i + 1)) : Int))).1).alloc (.cells #[.int .i64 (u : Int), .int .i64 (g.ports[v][i]).weight] 112)).drew
       rw [netVals_set g hlt] at this
       exact this
      ·exact ((HW.setCell (by simp; omega) _).alloc _).drew
     case measure => omega
    ·have hd2 : decide (i < g.ports[v].length) = false := by simpa using hlt2
     obtain rfl : i = g.ports[v].length := by omega
     go_wp2_with fail
     go_roundg (g.ports.length - (v + 1))
     case rel =>
      refine ⟨v + 1, by omega, rfl, by go_num, ?_, HW⟩
      have := HO.out
      rw [List.take_of_length_le (Nat.le_refl _), show netL g.ports[v] = netV g v by unfold netV; rw [getD_eq hlt], netVals_next] at this
      exact this
     case measure => omega
  ·have hd0 : decide (v < g.ports.length) = false := by simpa using hlt
   obtain rfl : v = g.ports.length := by omega
   go_wp2_with fail
   go_ret
   exact ⟨_, _, rfl, own_net HO.out, Nat.le_refl _, by unfold maxLen; omega, box_bel HW⟩

end Go.Proofs.YtgemlgpjbclonaaGreatDoor

/- Contracts: what a daemon permits; whether there is a daemon. -/
namespace Go.Proofs.YtgemlgpjbclonaaGreatDoor
open Go.RowKit

set_option maxHeartbeats 1000000 in
theorem daemonValid_any (kind : Int) (w : World) :
  Calls Tryz.prog 34 #[.int .i64 kind] w fun e w' => e = .returned (.bool (kindB kind)) ∧ w = w' := by
 have HF : Hid (kindB kind = (decide (1 ≤ kind) && decide (kind ≤ 4))) := rfl
 by_cases h0 : 1 ≤ kind
 ·have d0 : decide (1 ≤ kind) = true := by simpa using h0
  rw [d0] at HF
  by_cases h1 : kind ≤ 4
  ·have d1 : decide (kind ≤ 4) = true := by simpa using h1
   rw [d1] at HF
   go_enter Tryz.func34, Tryz.ntmps34
   go_wp2_with fail
   go_ret
   exact ⟨ret_bool (by rw [HF.out]; rfl), rfl⟩
  ·have d1 : decide (kind ≤ 4) = false := by simpa using h1
   rw [d1] at HF
   go_enter Tryz.func34, Tryz.ntmps34
   go_wp2_with fail
   go_ret
   exact ⟨ret_bool (by rw [HF.out]; rfl), rfl⟩
 ·have d0 : decide (1 ≤ kind) = false := by simpa using h0
  rw [d0] at HF
  go_enter Tryz.func34, Tryz.ntmps34
  go_wp2_with fail
  go_ret
  exact ⟨ret_bool (by rw [HF.out]; rfl), rfl⟩

set_option maxRecDepth 100000 in
set_option maxHeartbeats 2000000 in
theorem permits_any (A : Option Addr) (c : Nat) (g : Graph) (kind : Int) (E S : Nat) (w : World) (hN : NetR w A g) (hT : Tab32 w) (_ : E < 4294967296) (hS : S < 4294967296) (hw : ∀ v, E.testBit v = true → v < g.ports.length) (hg : GOK g) :
  Calls Tryz.prog 92 #[.slice A g.ports.length c, .int .i64 kind, .int .u32 (E : Int), .int .u32 (S : Int)] w fun e w' => e = .returned (.bool (permitsF g kind E S)) ∧ Bel w w' := by
 have HF : Hid (permitsF g kind E S = if S = 0 then false else if within32 S E = false then false else if kind = 1 then (S &&& (S - 1)) == 0 else if kind = 2 then indepP g S else if kind = 4 then S == E else true) := rfl
 have HN := Lib.hid hN
 have HT := Lib.hid hT
 have HS := Lib.hid hS
 have HG := Lib.hid hg
 have HB := Bel.refl w
 clear hN hT hg
 by_cases h0 : S = 0
 ·rw [if_pos h0] at HF
  have d0 : ((S : Int) == 0) = true := by simpa using h0
  clear h0
  go_enter Tryz.func92, Tryz.ntmps92
  go_wp2_with fail
  go_ret
  exact ⟨ret_bool HF.out.symm, HB⟩
 rw [if_neg h0] at HF
 have d0 : ((S : Int) == 0) = false := by simpa using h0
 have HD := diffF_zero (T := E) hS
 have hbn := bits_andNot S E
 cases hwi : within32 S E with
 | false =>
  rw [hwi, if_pos rfl] at HF
  rw [hwi] at HD
  have hz : ((diffF S E : Int) != 0) = true := by simp at HD ⊢; omega
  have hz' : (diffF S E != 0) = true := by simp at HD ⊢; omega
  clear h0 hwi HD
  go_enter Tryz.func92, Tryz.ntmps92
  go_wp2_with fail
  go_ret
  exact ⟨ret_bool HF.out.symm, HB⟩
 | true =>
  rw [hwi, if_neg (by decide)] at HF
  rw [hwi] at HD
  have hz : ((diffF S E : Int) != 0) = false := by simp at HD ⊢; omega
  have hz' : (diffF S E != 0) = false := by simp at HD ⊢; omega
  have HWS : Hid (∀ v, S.testBit v = true → v < g.ports.length) := fun v hv => hw v (within32_iff.1 hwi v (bit_lt hS hv) hv)
  clear hwi HD
  by_cases k1 : kind = 1
  ·rw [if_pos k1] at HF
   subst k1
   have HS1 := Lib.hid (show ((S : Int) - 1) % 4294967296 = ((S - 1 : Nat) : Int) by omega)
   have HB1 := Lib.hid (bits_and (S := S) (T := S - 1) hS (by omega))
   clear h0
   go_enter Tryz.func92, Tryz.ntmps92
   go_wp2_with fail
   go_ret
   refine ⟨ret_bool ?_, HB⟩
   rw [HF.out, Bool.eq_iff_iff]
   simp
   rw [HS1.out, HB1.out]
   omega
  rw [if_neg k1] at HF
  have k1' : (kind == 1) = false := by simpa using k1
  by_cases k2 : kind = 2
  ·rw [if_pos k2] at HF
   subst k2
   clear h0 k1
   go_enter Tryz.func92, Tryz.ntmps92
   go_wp2_with (go_at_call 116; refine (indep_any A c g S _ HN.out HT.out HS.out HWS.out HG.out).mono ?_; rintro e w' ⟨rfl, hb⟩)
   go_ret
   exact ⟨ret_bool HF.out.symm, hb⟩
  rw [if_neg k2] at HF
  have k2' : (kind == 2) = false := by simpa using k2
  by_cases k4 : kind = 4
  ·rw [if_pos k4] at HF
   subst k4
   clear h0 k1 k2
   go_enter Tryz.func92, Tryz.ntmps92
   go_wp2_with fail
   go_ret
   refine ⟨ret_bool ?_, HB⟩
   rw [HF.out, Bool.eq_iff_iff]
   simp
   try omega
  rw [if_neg k4] at HF
  have k4' : (kind == 4) = false := by simpa using k4
  clear h0 k1 k2 k4
  go_enter Tryz.func92, Tryz.ntmps92
  go_wp2_with fail
  go_ret
  exact ⟨ret_bool HF.out.symm, HB⟩

end Go.Proofs.YtgemlgpjbclonaaGreatDoor

