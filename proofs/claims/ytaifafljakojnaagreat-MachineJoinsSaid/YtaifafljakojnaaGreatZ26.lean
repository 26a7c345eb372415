/- Merged of: W12j W12k W13h W12m (see NOTES.md). -/
import Derived.Test.YtaifafljakojnaaGreatZ25
import Derived.Test.YtaifafljakojnaaGreatZ05
import Derived.Test.YtaifafljakojnaaGreatZ16
import Derived.Test.YtaifafljakojnaaGreatZ23
import Derived.Test.YtaifafljakojnaaGreatZ13
import Derived.Test.YtaifafljakojnaaGreatZ04
import Derived.Test.YtaifafljakojnaaGreatZ24
set_option linter.unusedSimpArgs false
set_option linter.unnecessarySimpa false
set_option linter.unusedVariables false

/- Contracts of limits and Verify of the program. -/
namespace Go.Proofs.YtaifafljakojnaaGreat
open Go.RowKit

def limC (v : Int) : Array Value := #[.int .i64 0, .int .i64 (-1), .int .i64 (-1073741824), .int .i64 1073741824, .int .i64 0, .int .i64 (v - 1), .int .i64 0, .int .i64 (v - 1), .int .i64 6, .int .i64 17, .int .i64 18, .int .i64 19, .int .i64 30, .int .i64 42, .int .i64 0, .int .i64 1024, .int .i64 0, .int .i64 1024, .int .i64 0, .int .i64 1024, .int .i64 20, .int .i64 29]

theorem run_two (a b : Int) (w : World) : (Instr.build 87 #[(0, .int .i64 a), (1, .int .i64 b)]).run Tryz.prog w = .ok (.agg #[.int .i64 a, .int .i64 b]) w := run_build w _ _ _ (by kernel_rfl)
theorem run_lim (v : Int) (w : World) : (Instr.build 88 #[(0, .agg #[.int .i64 0, .int .i64 (-1)]), (1, .agg #[.int .i64 (-1073741824), .int .i64 1073741824]), (2, .agg #[.int .i64 0, .int .i64 (v - 1)]), (3, .agg #[.int .i64 0, .int .i64 (v - 1)]), (4, .agg #[.int .i64 6, .int .i64 17]), (5, .agg #[.int .i64 18, .int .i64 19]), (6, .agg #[.int .i64 30, .int .i64 42]), (7, .agg #[.int .i64 0, .int .i64 1024]), (8, .agg #[.int .i64 0, .int .i64 1024]), (9, .agg #[.int .i64 0, .int .i64 1024]), (10, .agg #[.int .i64 20, .int .i64 29])]).run Tryz.prog w = .ok (.agg (limC v)) w := run_build w _ _ _ (by kernel_rfl)

set_option maxRecDepth 100000 in
set_option maxHeartbeats 1000000 in
theorem limits_any (vars : Int) (w : World) (h0 : 0 ≤ vars) (h1 : vars ≤ 1000000) :
    Calls Tryz.prog 37 #[.int .i64 vars] w fun e w' => e = .returned (.agg (limC vars)) ∧ Bel w w' := by
  have r1 := run_two
  go_enter Tryz.func37, Tryz.ntmps37
  go_upto_region 3 with fail
  refine wp_region_lit ?_
  iterate 55 go_step
  refine wp_build_is 88 _ rfl (limC vars) (by kernel_rfl) ?_
  go_step
  refine wpList_store_row rfl 88 (.tmp 2) (.tmp 24) rfl w.heap.size (limC vars) (by kernel_rfl) (by kernel_rfl) 88 _ (heap_new _ _) (by kernel_rfl) (by rfl) (by simp [limC, Value.oneCell']) ?_
  rw [World.setRow_alloc_new]
  apply wpList_nil
  iterate 4 go_step
  exact bodyPost_ret (v := .agg (limC vars)) (results_cell_row rfl _ _ w.heap.size 88 (limC vars) (0, 0) _ (by kernel_rfl) (heap_new _ _) Tryz.underlying88 rfl (by kernel_rfl)) rfl ⟨rfl, (Bel.refl _).alloc _⟩

end Go.Proofs.YtaifafljakojnaaGreat

/- The contract of Verify of the program. -/
namespace Go.Proofs.YtaifafljakojnaaGreat
open Go.RowKit

def zerosV : Array Value := #[.slice none 0 0, .int .i64 0, .int .i64 0, .int .i64 0, .int .i64 0, .int .i64 0, .int .i64 0, .int .i64 0, .int .i64 0, .int .i64 0, .int .i64 0, .int .i64 0, .int .i64 0, .int .i64 0, .int .i64 0, .int .i64 0, .int .i64 0, .int .i64 0, .int .i64 0, .int .i64 0, .int .i64 0, .int .i64 0, .int .i64 0, .slice none 0 0, .slice none 0 0, .int .i64 0]
theorem run_allocV (w : World) : (Instr.alloc 92 true (.tuple #[])).run Tryz.prog w = .ok (.pointer (some ⟨w.heap.size, 0, none⟩)) (w.alloc (.cells zerosV 92)) := by kernel_rfl

def RetVer (l : List Term) (vars : Int) (w : World) (e : Ending) (w' : World) : Prop :=
  e = .returned (.tuple #[.int .i64 (verifyF l vars).1, .int .i64 (verifyF l vars).2.1, .int .i64 (verifyF l vars).2.2]) ∧ Bel w w'

theorem start_ver {w wx : World} {G Hm : Nat} {L : Option Addr} {n c m : Nat} {v : Int} (hG : w.heap.size ≤ G) (hblk : Blk wx G zerosV 92) (hown : wx.ownsRow w.heap.size 3 1 (.slice (some ⟨Hm, 0, none⟩) m m) m (List.replicate m (.int .i64 0))) (HB : Bel w wx) :
    VerSt w G (wx.setRow G (verCells (.slice L n c) v (.slice (some ⟨Hm, 0, none⟩) m m) (.slice none 0 0) 0)) L n c v (some ⟨Hm, 0, none⟩) m (List.replicate m 0) none 0 [] 0 := by
  have hne := hblk.apart hown (by decide)
  have hg := grown_row wx G (verCells (.slice L n c) v (.slice (some ⟨Hm, 0, none⟩) m m) (.slice none 0 0) 0)
  have e : (List.replicate m (0 : Int)).length = m := List.length_replicate
  refine ⟨hG, ?_, ?_, World.ownsRow_nil _ _ _ _, HB.grown hg (fun k hk => by injection hk with hk; omega)⟩
  · rw [e]; exact hblk.row _
  · rw [e, List.map_replicate]; exact hown.kept hg (.inr (fun e => hne e.symm))

theorem set_rep (k n : Nat) (h : k < n) : (List.replicate k (-1 : Int) ++ List.replicate (n - k) 0).set k (-1) = List.replicate (k + 1) (-1) ++ List.replicate (n - (k + 1)) 0 := by
  rw [List.set_append_right _ _ (by simp), List.length_replicate, Nat.sub_self, show n - k = (n - (k + 1)) + 1 by omega, List.replicate_succ, List.set_cons_zero, List.replicate_succ', List.append_assoc]
  rfl

set_option maxRecDepth 100000 in
set_option maxHeartbeats 12000000 in
theorem verify_any (L : Option Addr) (n c : Nat) (l : List Term) (vars : Int) (w : World) (hT : TermsR w L n l) (hn : n ≤ 100000) (hcap : n ≤ c) (h0 : 0 ≤ vars) (h1 : vars ≤ 1000000) :
    Calls Tryz.prog 17 #[.slice L n c, .int .i64 vars] w (RetVer l vars w) := by
  obtain rfl := hT.1
  have HT := Lib.hid hT; clear hT
  by_cases hz : l.length = 0
  · have HF : Hid (verifyF l vars = (0, 0, 3)) := by show verifyF l vars = _; unfold verifyF; rw [if_pos (.inl hz)]
    obtain rfl : l = [] := List.eq_nil_of_length_eq_zero hz
    clear hz
    go_enter Tryz.func17, Tryz.ntmps17
    go_wp2
    go_ret3
    exact ⟨by rw [HF.out]; rfl, Bel.refl _⟩
  · have hzb : ((l.length : Int) == 0) = false := by rw [beq_eq_false_iff_ne]; omega
    by_cases hbig : 1024 < l.length
    · have hbb : decide (1024 < (l.length : Int)) = true := by simp; omega
      have HF : Hid (verifyF l vars = (0, 0, 3)) := by show verifyF l vars = _; unfold verifyF; rw [if_pos (.inr hbig)]
      go_enter Tryz.func17, Tryz.ntmps17
      go_wp2
      go_ret3
      exact ⟨by rw [HF.out]; rfl, Bel.refl _⟩
    · have hbb : decide (1024 < (l.length : Int)) = false := by simp; omega
      have HF : Hid (verifyF l vars = verGo l vars l.length 0 (0 :: List.replicate l.length (-1)) [] 0) := by
        show verifyF l vars = _
        unfold verifyF; rw [if_neg (by omega), Int.max_eq_left h0]
      obtain ⟨i0, hi0, hz0, hz1, hz2⟩ := info_parts int_info
      have hl4 : l.length ≤ 1024 := by omega
      have hpos : 0 < l.length := by omega
      have HB := (Bel.refl w).drew
      have hw1 : IntKind.i64.wrap ((l.length : Int) + 1) = (l.length : Int) + 1 := IntWalk.i64_in _ (by omega)
      go_enter Tryz.func17, Tryz.ntmps17
      go_upto_region 3 with fail
      go_cut [7] (fun pv wc => ∃ g H : Nat, pv = .pointer (some ⟨g, 0, none⟩) ∧ Hid (VerSt w g wc L l.length c vars (some ⟨H, 0, none⟩) (l.length + 1) (List.replicate (l.length + 1) 0) none 0 [] 0))
      case first =>
        refine wp_region_any (by kernel_rfl) ?_
        change wpAny _ _ _ _ _ _ _ (World.drew _)
        refine wpAny_take (i := 0) (v := .slice L l.length c) rfl (by kernel_rfl) (by kernel_rfl) (by kernel_rfl) (fun _ _ _ h => h) (Or.inl ⟨by rfl, ?_⟩) ?_
        · intro w; go_simp
        refine wpAny_take (i := 1) (v := .int .i64 vars) rfl (by kernel_rfl) (by kernel_rfl) (by kernel_rfl) (fun _ _ _ h => h) (Or.inl ⟨by rfl, ?_⟩) ?_
        · intro w; go_simp
        refine wpAny_take (i := 3) (v := .slice L l.length c) rfl (by kernel_rfl) (by kernel_rfl) (by kernel_rfl) (fun _ _ _ h => h) (Or.inl ⟨by rfl, ?_⟩) ?_
        · intro w; go_simp
        refine wpAny_take (i := 4) (v := .int .i64 (l.length : Int)) rfl (by kernel_rfl) (by kernel_rfl) (by kernel_rfl) (fun _ _ _ h => h) (Or.inl ⟨by rfl, ?_⟩) ?_
        · intro w; go_simp
        refine wpAny_take (i := 5) (v := .int .i64 ((l.length : Int) + 1)) rfl (by kernel_rfl) (by kernel_rfl) (by kernel_rfl) (fun _ _ _ h => h) (Or.inl ⟨by rfl, ?_⟩) ?_
        · intro w; go_simp
        refine wpAny_ready (rs := [2, 6, 8]) (by kernel_rfl) (by simp) ?_
        refine AllReady.cons rfl (fun K hK => ?_) ?_
        · go_simp
          refine (limits_any _ _ h0 h1).mono ?_
          rintro e wl ⟨rfl, hbl⟩
          replace HB := HB.trans hbl
          clear hbl
          try go_simp
          refine hK _ _ ?_; clear hK K
          refine wpAny_ready (rs := [6, 8]) (by kernel_rfl) (by simp) ?_
          refine AllReady.cons rfl (fun K hK => ?_) ?_
          · refine step_make _ rfl 27 (.tmp 24) (.tmp 24) rfl w.heap.size 3 i0 (.int .i64 0) 1 Tryz.underlying27 hi0 hz0 hz1 .i64 .i64 (l.length + 1) (by kernel_rfl) (by kernel_rfl) (by rw [hz2]; omega) (by unfold maxLen; omega) HB.size ?_
            intro Hm wm hown hbl
            rw [made_one _ rfl] at hown
            replace HB := HB.trans hbl
            clear hbl
            try go_simp
            refine hK _ _ ?_; clear hK K
            refine wpAny_ready (rs := [7, 8]) (by kernel_rfl) (by simp) ?_
            refine AllReady.cons rfl (fun K hK => ?_) ?_
            · refine step_build rfl 92 _ rfl (verCells (.slice L l.length c) vars (.slice (some ⟨Hm, 0, none⟩) (l.length + 1) (l.length + 1)) (.slice none 0 0) 0) (by kernel_rfl) ?_
              try go_simp
              refine hK _ _ ?_; clear hK K
              refine wpAny_ready (rs := [8]) (by kernel_rfl) (by simp) ?_
              refine AllReady.cons rfl (fun K hK => ?_) AllReady.nil
              refine step_alloc _ rfl 92 rfl zerosV (run_allocV _) ?_
              intro G wa hG hblk hbl
              replace hG := Nat.le_trans HB.size hG
              replace hown := hbl.owns hown
              replace HB := HB.trans hbl
              clear hbl
              try go_simp
              refine hK _ _ ?_; clear hK K
              refine wpAny_ready (rs := [9]) (by kernel_rfl) (by simp) ?_
              refine AllReady.cons rfl (fun K hK => ?_) AllReady.nil
              refine step_storeRow rfl 92 (.tmp 7) (.tmp 26) rfl G (verCells (.slice L l.length c) vars (.slice (some ⟨Hm, 0, none⟩) (l.length + 1) (l.length + 1)) (.slice none 0 0) 0) (by kernel_rfl) (by kernel_rfl) 92 zerosV hblk (by kernel_rfl) (by rfl) (by simp [verCells, Value.oneCell']) ?_
              try go_simp
              refine hK _ _ ?_; clear hK K
              refine wpAny_done (by kernel_rfl) ?_ _
              go_wp2_with fail
              go_meet
              exact ⟨G, Hm, rfl, start_ver hG hblk hown HB⟩
            refine AllReady.cons rfl (fun K hK => ?_) AllReady.nil
            refine step_alloc _ rfl 92 rfl zerosV (run_allocV _) ?_
            intro G wa hG hblk hbl
            replace hG := Nat.le_trans HB.size hG
            replace hown := hbl.owns hown
            replace HB := HB.trans hbl
            clear hbl
            try go_simp
            refine hK _ _ ?_; clear hK K
            refine wpAny_ready (rs := [7]) (by kernel_rfl) (by simp) ?_
            refine AllReady.cons rfl (fun K hK => ?_) AllReady.nil
            refine step_build rfl 92 _ rfl (verCells (.slice L l.length c) vars (.slice (some ⟨Hm, 0, none⟩) (l.length + 1) (l.length + 1)) (.slice none 0 0) 0) (by kernel_rfl) ?_
            try go_simp
            refine hK _ _ ?_; clear hK K
            refine wpAny_ready (rs := [9]) (by kernel_rfl) (by simp) ?_
            refine AllReady.cons rfl (fun K hK => ?_) AllReady.nil
            refine step_storeRow rfl 92 (.tmp 7) (.tmp 26) rfl G (verCells (.slice L l.length c) vars (.slice (some ⟨Hm, 0, none⟩) (l.length + 1) (l.length + 1)) (.slice none 0 0) 0) (by kernel_rfl) (by kernel_rfl) 92 zerosV hblk (by kernel_rfl) (by rfl) (by simp [verCells, Value.oneCell']) ?_
            try go_simp
            refine hK _ _ ?_; clear hK K
            refine wpAny_done (by kernel_rfl) ?_ _
            go_wp2_with fail
            go_meet
            exact ⟨G, Hm, rfl, start_ver hG hblk hown HB⟩
          refine AllReady.cons rfl (fun K hK => ?_) AllReady.nil
          refine step_alloc _ rfl 92 rfl zerosV (run_allocV _) ?_
          intro G wa hG hblk hbl
          replace hG := Nat.le_trans HB.size hG
          replace HB := HB.trans hbl
          clear hbl
          try go_simp
          refine hK _ _ ?_; clear hK K
          refine wpAny_ready (rs := [6]) (by kernel_rfl) (by simp) ?_
          refine AllReady.cons rfl (fun K hK => ?_) AllReady.nil
          refine step_make _ rfl 27 (.tmp 24) (.tmp 24) rfl w.heap.size 3 i0 (.int .i64 0) 1 Tryz.underlying27 hi0 hz0 hz1 .i64 .i64 (l.length + 1) (by kernel_rfl) (by kernel_rfl) (by rw [hz2]; omega) (by unfold maxLen; omega) HB.size ?_
          intro Hm wm hown hbl
          rw [made_one _ rfl] at hown
          replace hblk := hblk.keep hbl
          replace HB := HB.trans hbl
          clear hbl
          try go_simp
          refine hK _ _ ?_; clear hK K
          refine wpAny_ready (rs := [7]) (by kernel_rfl) (by simp) ?_
          refine AllReady.cons rfl (fun K hK => ?_) AllReady.nil
          refine step_build rfl 92 _ rfl (verCells (.slice L l.length c) vars (.slice (some ⟨Hm, 0, none⟩) (l.length + 1) (l.length + 1)) (.slice none 0 0) 0) (by kernel_rfl) ?_
          try go_simp
          refine hK _ _ ?_; clear hK K
          refine wpAny_ready (rs := [9]) (by kernel_rfl) (by simp) ?_
          refine AllReady.cons rfl (fun K hK => ?_) AllReady.nil
          refine step_storeRow rfl 92 (.tmp 7) (.tmp 26) rfl G (verCells (.slice L l.length c) vars (.slice (some ⟨Hm, 0, none⟩) (l.length + 1) (l.length + 1)) (.slice none 0 0) 0) (by kernel_rfl) (by kernel_rfl) 92 zerosV hblk (by kernel_rfl) (by rfl) (by simp [verCells, Value.oneCell']) ?_
          try go_simp
          refine hK _ _ ?_; clear hK K
          refine wpAny_done (by kernel_rfl) ?_ _
          go_wp2_with fail
          go_meet
          exact ⟨G, Hm, rfl, start_ver hG hblk hown HB⟩
        refine AllReady.cons rfl (fun K hK => ?_) ?_
        · refine step_make _ rfl 27 (.tmp 24) (.tmp 24) rfl w.heap.size 3 i0 (.int .i64 0) 1 Tryz.underlying27 hi0 hz0 hz1 .i64 .i64 (l.length + 1) (by kernel_rfl) (by kernel_rfl) (by rw [hz2]; omega) (by unfold maxLen; omega) HB.size ?_
          intro Hm wm hown hbl
          rw [made_one _ rfl] at hown
          replace HB := HB.trans hbl
          clear hbl
          try go_simp
          refine hK _ _ ?_; clear hK K
          refine wpAny_ready (rs := [2, 8]) (by kernel_rfl) (by simp) ?_
          refine AllReady.cons rfl (fun K hK => ?_) ?_
          · go_simp
            refine (limits_any _ _ h0 h1).mono ?_
            rintro e wl ⟨rfl, hbl⟩
            replace hown := hbl.owns hown
            replace HB := HB.trans hbl
            clear hbl
            try go_simp
            refine hK _ _ ?_; clear hK K
            refine wpAny_ready (rs := [7, 8]) (by kernel_rfl) (by simp) ?_
            refine AllReady.cons rfl (fun K hK => ?_) ?_
            · refine step_build rfl 92 _ rfl (verCells (.slice L l.length c) vars (.slice (some ⟨Hm, 0, none⟩) (l.length + 1) (l.length + 1)) (.slice none 0 0) 0) (by kernel_rfl) ?_
              try go_simp
              refine hK _ _ ?_; clear hK K
              refine wpAny_ready (rs := [8]) (by kernel_rfl) (by simp) ?_
              refine AllReady.cons rfl (fun K hK => ?_) AllReady.nil
              refine step_alloc _ rfl 92 rfl zerosV (run_allocV _) ?_
              intro G wa hG hblk hbl
              replace hG := Nat.le_trans HB.size hG
              replace hown := hbl.owns hown
              replace HB := HB.trans hbl
              clear hbl
              try go_simp
              refine hK _ _ ?_; clear hK K
              refine wpAny_ready (rs := [9]) (by kernel_rfl) (by simp) ?_
              refine AllReady.cons rfl (fun K hK => ?_) AllReady.nil
              refine step_storeRow rfl 92 (.tmp 7) (.tmp 26) rfl G (verCells (.slice L l.length c) vars (.slice (some ⟨Hm, 0, none⟩) (l.length + 1) (l.length + 1)) (.slice none 0 0) 0) (by kernel_rfl) (by kernel_rfl) 92 zerosV hblk (by kernel_rfl) (by rfl) (by simp [verCells, Value.oneCell']) ?_
              try go_simp
              refine hK _ _ ?_; clear hK K
              refine wpAny_done (by kernel_rfl) ?_ _
              go_wp2_with fail
              go_meet
              exact ⟨G, Hm, rfl, start_ver hG hblk hown HB⟩
            refine AllReady.cons rfl (fun K hK => ?_) AllReady.nil
            refine step_alloc _ rfl 92 rfl zerosV (run_allocV _) ?_
            intro G wa hG hblk hbl
            replace hG := Nat.le_trans HB.size hG
            replace hown := hbl.owns hown
            replace HB := HB.trans hbl
            clear hbl
            try go_simp
            refine hK _ _ ?_; clear hK K
            refine wpAny_ready (rs := [7]) (by kernel_rfl) (by simp) ?_
            refine AllReady.cons rfl (fun K hK => ?_) AllReady.nil
            refine step_build rfl 92 _ rfl (verCells (.slice L l.length c) vars (.slice (some ⟨Hm, 0, none⟩) (l.length + 1) (l.length + 1)) (.slice none 0 0) 0) (by kernel_rfl) ?_
            try go_simp
            refine hK _ _ ?_; clear hK K
            refine wpAny_ready (rs := [9]) (by kernel_rfl) (by simp) ?_
            refine AllReady.cons rfl (fun K hK => ?_) AllReady.nil
            refine step_storeRow rfl 92 (.tmp 7) (.tmp 26) rfl G (verCells (.slice L l.length c) vars (.slice (some ⟨Hm, 0, none⟩) (l.length + 1) (l.length + 1)) (.slice none 0 0) 0) (by kernel_rfl) (by kernel_rfl) 92 zerosV hblk (by kernel_rfl) (by rfl) (by simp [verCells, Value.oneCell']) ?_
            try go_simp
            refine hK _ _ ?_; clear hK K
            refine wpAny_done (by kernel_rfl) ?_ _
            go_wp2_with fail
            go_meet
            exact ⟨G, Hm, rfl, start_ver hG hblk hown HB⟩
          refine AllReady.cons rfl (fun K hK => ?_) AllReady.nil
          refine step_alloc _ rfl 92 rfl zerosV (run_allocV _) ?_
          intro G wa hG hblk hbl
          replace hG := Nat.le_trans HB.size hG
          replace hown := hbl.owns hown
          replace HB := HB.trans hbl
          clear hbl
          try go_simp
          refine hK _ _ ?_; clear hK K
          refine wpAny_ready (rs := [2]) (by kernel_rfl) (by simp) ?_
          refine AllReady.cons rfl (fun K hK => ?_) AllReady.nil
          go_simp
          refine (limits_any _ _ h0 h1).mono ?_
          rintro e wl ⟨rfl, hbl⟩
          replace hown := hbl.owns hown
          replace hblk := hblk.keep hbl
          replace HB := HB.trans hbl
          clear hbl
          try go_simp
          refine hK _ _ ?_; clear hK K
          refine wpAny_ready (rs := [7]) (by kernel_rfl) (by simp) ?_
          refine AllReady.cons rfl (fun K hK => ?_) AllReady.nil
          refine step_build rfl 92 _ rfl (verCells (.slice L l.length c) vars (.slice (some ⟨Hm, 0, none⟩) (l.length + 1) (l.length + 1)) (.slice none 0 0) 0) (by kernel_rfl) ?_
          try go_simp
          refine hK _ _ ?_; clear hK K
          refine wpAny_ready (rs := [9]) (by kernel_rfl) (by simp) ?_
          refine AllReady.cons rfl (fun K hK => ?_) AllReady.nil
          refine step_storeRow rfl 92 (.tmp 7) (.tmp 26) rfl G (verCells (.slice L l.length c) vars (.slice (some ⟨Hm, 0, none⟩) (l.length + 1) (l.length + 1)) (.slice none 0 0) 0) (by kernel_rfl) (by kernel_rfl) 92 zerosV hblk (by kernel_rfl) (by rfl) (by simp [verCells, Value.oneCell']) ?_
          try go_simp
          refine hK _ _ ?_; clear hK K
          refine wpAny_done (by kernel_rfl) ?_ _
          go_wp2_with fail
          go_meet
          exact ⟨G, Hm, rfl, start_ver hG hblk hown HB⟩
        refine AllReady.cons rfl (fun K hK => ?_) AllReady.nil
        refine step_alloc _ rfl 92 rfl zerosV (run_allocV _) ?_
        intro G wa hG hblk hbl
        replace hG := Nat.le_trans HB.size hG
        replace HB := HB.trans hbl
        clear hbl
        try go_simp
        refine hK _ _ ?_; clear hK K
        refine wpAny_ready (rs := [2, 6]) (by kernel_rfl) (by simp) ?_
        refine AllReady.cons rfl (fun K hK => ?_) ?_
        · go_simp
          refine (limits_any _ _ h0 h1).mono ?_
          rintro e wl ⟨rfl, hbl⟩
          replace hblk := hblk.keep hbl
          replace HB := HB.trans hbl
          clear hbl
          try go_simp
          refine hK _ _ ?_; clear hK K
          refine wpAny_ready (rs := [6]) (by kernel_rfl) (by simp) ?_
          refine AllReady.cons rfl (fun K hK => ?_) AllReady.nil
          refine step_make _ rfl 27 (.tmp 24) (.tmp 24) rfl w.heap.size 3 i0 (.int .i64 0) 1 Tryz.underlying27 hi0 hz0 hz1 .i64 .i64 (l.length + 1) (by kernel_rfl) (by kernel_rfl) (by rw [hz2]; omega) (by unfold maxLen; omega) HB.size ?_
          intro Hm wm hown hbl
          rw [made_one _ rfl] at hown
          replace hblk := hblk.keep hbl
          replace HB := HB.trans hbl
          clear hbl
          try go_simp
          refine hK _ _ ?_; clear hK K
          refine wpAny_ready (rs := [7]) (by kernel_rfl) (by simp) ?_
          refine AllReady.cons rfl (fun K hK => ?_) AllReady.nil
          refine step_build rfl 92 _ rfl (verCells (.slice L l.length c) vars (.slice (some ⟨Hm, 0, none⟩) (l.length + 1) (l.length + 1)) (.slice none 0 0) 0) (by kernel_rfl) ?_
          try go_simp
          refine hK _ _ ?_; clear hK K
          refine wpAny_ready (rs := [9]) (by kernel_rfl) (by simp) ?_
          refine AllReady.cons rfl (fun K hK => ?_) AllReady.nil
          refine step_storeRow rfl 92 (.tmp 7) (.tmp 26) rfl G (verCells (.slice L l.length c) vars (.slice (some ⟨Hm, 0, none⟩) (l.length + 1) (l.length + 1)) (.slice none 0 0) 0) (by kernel_rfl) (by kernel_rfl) 92 zerosV hblk (by kernel_rfl) (by rfl) (by simp [verCells, Value.oneCell']) ?_
          try go_simp
          refine hK _ _ ?_; clear hK K
          refine wpAny_done (by kernel_rfl) ?_ _
          go_wp2_with fail
          go_meet
          exact ⟨G, Hm, rfl, start_ver hG hblk hown HB⟩
        refine AllReady.cons rfl (fun K hK => ?_) AllReady.nil
        refine step_make _ rfl 27 (.tmp 24) (.tmp 24) rfl w.heap.size 3 i0 (.int .i64 0) 1 Tryz.underlying27 hi0 hz0 hz1 .i64 .i64 (l.length + 1) (by kernel_rfl) (by kernel_rfl) (by rw [hz2]; omega) (by unfold maxLen; omega) HB.size ?_
        intro Hm wm hown hbl
        rw [made_one _ rfl] at hown
        replace hblk := hblk.keep hbl
        replace HB := HB.trans hbl
        clear hbl
        try go_simp
        refine hK _ _ ?_; clear hK K
        refine wpAny_ready (rs := [2]) (by kernel_rfl) (by simp) ?_
        refine AllReady.cons rfl (fun K hK => ?_) AllReady.nil
        go_simp
        refine (limits_any _ _ h0 h1).mono ?_
        rintro e wl ⟨rfl, hbl⟩
        replace hown := hbl.owns hown
        replace hblk := hblk.keep hbl
        replace HB := HB.trans hbl
        clear hbl
        try go_simp
        refine hK _ _ ?_; clear hK K
        refine wpAny_ready (rs := [7]) (by kernel_rfl) (by simp) ?_
        refine AllReady.cons rfl (fun K hK => ?_) AllReady.nil
        refine step_build rfl 92 _ rfl (verCells (.slice L l.length c) vars (.slice (some ⟨Hm, 0, none⟩) (l.length + 1) (l.length + 1)) (.slice none 0 0) 0) (by kernel_rfl) ?_
        try go_simp
        refine hK _ _ ?_; clear hK K
        refine wpAny_ready (rs := [9]) (by kernel_rfl) (by simp) ?_
        refine AllReady.cons rfl (fun K hK => ?_) AllReady.nil
        refine step_storeRow rfl 92 (.tmp 7) (.tmp 26) rfl G (verCells (.slice L l.length c) vars (.slice (some ⟨Hm, 0, none⟩) (l.length + 1) (l.length + 1)) (.slice none 0 0) 0) (by kernel_rfl) (by kernel_rfl) 92 zerosV hblk (by kernel_rfl) (by rfl) (by simp [verCells, Value.oneCell']) ?_
        try go_simp
        refine hK _ _ ?_; clear hK K
        refine wpAny_done (by kernel_rfl) ?_ _
        go_wp2_with fail
        go_meet
        exact ⟨G, Hm, rfl, start_ver hG hblk hown HB⟩
      case rest =>
        obtain ⟨g, H, rfl, HV0⟩ := hcut
        clear hw1 HB
        have hlr : (List.replicate (l.length + 1) (0 : Int)).length = l.length + 1 := List.length_replicate
        have z23 := HV0.out.blk.cell 23 (v := .slice (some ⟨H, 0, none⟩) (List.replicate (l.length + 1) (0 : Int)).length (l.length + 1)) rfl
        rw [hlr] at z23
        have zl := HV0.out.blk.lt
        clear hlr
        go_wp2_with fail
        go_loopg [30] (l.length + 1) (fun gg iv wr => ∃ k : Nat, k + gg = l.length + 1 ∧ iv = .int .i64 k ∧ Hid (VerSt w g wr L l.length c vars (some ⟨H, 0, none⟩) (l.length + 1) (List.replicate k (-1) ++ List.replicate (l.length + 1 - k) 0) none 0 [] 0))
        case atStart => exact ⟨0, by omega, rfl, by simpa using HV0⟩
        case round =>
          clear z23 zl
          obtain ⟨k, hk, rfl, HV⟩ := hrel
          have hlen : (List.replicate k (-1 : Int) ++ List.replicate (l.length + 1 - k) 0).length = l.length + 1 := by simp; omega
          have z23 := HV.out.blk.cell 23 (v := .slice (some ⟨H, 0, none⟩) (List.replicate k (-1 : Int) ++ List.replicate (l.length + 1 - k) 0).length (l.length + 1)) rfl
          rw [hlen] at z23
          have zl := HV.out.blk.lt
          by_cases hlt : k < l.length + 1
          · obtain ⟨g', e', y1, y2, y3, y4⟩ := HV.out.int_at k (by rw [hlen]; exact hlt)
            obtain rfl : H = g' := by simpa using e'
            obtain ⟨yv, hyv⟩ : ∃ yv : Int, wr.cell? ⟨H, k, none⟩ = some (.int .i64 yv) := ⟨_, y2⟩
            clear y2
            obtain ⟨s1, s2⟩ := HV.out.setH k (-1)
            rw [set_rep k (l.length + 1) hlt] at s1
            replace s1 := Lib.hid s1
            clear hlen e' s2
            go_wp2_with fail
            go_roundg (gk - 1)
            case rel => exact ⟨k + 1, by omega, by go_num, s1⟩
            case measure => omega
          · obtain rfl : k = l.length + 1 := by omega
            rw [Nat.sub_self, List.replicate_zero, List.append_nil] at HV
            have hlen2 : (List.replicate (l.length + 1) (-1 : Int)).length = l.length + 1 := List.length_replicate
            obtain ⟨g', e', y1, y2, y3, y4⟩ := HV.out.int_at 0 (by rw [hlen2]; omega)
            obtain rfl : H = g' := by simpa using e'
            obtain ⟨yv, hyv⟩ : ∃ yv : Int, wr.cell? ⟨H, 0, none⟩ = some (.int .i64 yv) := ⟨_, y2⟩
            clear y2
            obtain ⟨s1, s2⟩ := HV.out.setH 0 0
            rw [List.replicate_succ, List.set_cons_zero] at s1
            replace s1 := Lib.hid s1
            obtain ⟨wq, hwq⟩ : ∃ wq : World, wq = wr := ⟨_, rfl⟩
            subst hwq
            clear hlen hlen2 e' s2 hk hlt
            go_wp2_with fail
            go_loopg [43] l.length (fun gg iv wr => ∃ (k : Nat) (O : Option Addr) (oc : Nat) (hs : List Int) (tr : List Tr) (m : Int), k + gg = l.length ∧ iv = .int .i64 k ∧ Hid (VInv l hs tr) ∧ Hid (verGo l vars gg k hs tr m = verifyF l vars) ∧ Hid (VerSt w g wr L l.length c vars (some ⟨H, 0, none⟩) (l.length + 1) hs O oc tr m))
            case atStart => exact ⟨0, none, 0, _, [], 0, by omega, rfl, start_inv l, HF.out.symm, s1⟩
            case round =>
              clear z23 zl y1 hyv y3 y4 s1 HV
              obtain ⟨k, O, oc, hs, tr, m, hk, rfl, HI, HG, HV⟩ := hrel
              by_cases hlt : k < l.length
              · obtain ⟨q, rfl⟩ : ∃ q, gk = q + 1 := ⟨gk - 1, by omega⟩
                have hil : k < hs.length := by rw [HI.out.1]; omega
                have hyy := HI.out.2.1 hs[k] (List.getElem_mem _)
                rw [← ig_get hil] at hyy
                have hin := inner_inv HI.out
                have hT2 := HI.out.2.2.1
                cases hst : stepP l vars k hs tr m with
                | mk r e2 =>
                have Hst := Lib.hid hst; clear hst
                cases r with
                | none =>
                  have he2 : (e2 != 0) = true := by rcases stepP_none Hst.out with rfl | rfl <;> rfl
                  have HR : Hid (verifyF l vars = (0, (k : Int), e2)) := by
                    show verifyF l vars = _
                    rw [← HG.out]; simp only [verGo, Hst.out]
                  go_wp2_with fail
                  refine (examine_any HV.out HT.out hn hcap k hlt HI.out.1 (by omega) (by omega) (by omega) hin.1 hin.2.1 (by omega)).mono ?_
                  rintro e w2 ⟨rfl, hb2, _⟩
                  rw [Hst.out]
                  go_wp2_with fail
                  go_ret3
                  exact ⟨by rw [HR.out]; rfl, hb2⟩
                | some p =>
                  obtain ⟨hs', tr', m'⟩ := p
                  obtain rfl : e2 = 0 := (stepP_some Hst.out).2.2.2.2
                  have HI' := Lib.hid (stepP_inv hlt HI.out Hst.out)
                  have HG' : Hid (verGo l vars q (k + 1) hs' tr' m' = verifyF l vars) := by
                    show verGo l vars q (k + 1) hs' tr' m' = _
                    rw [← HG.out]; simp only [verGo, Hst.out]
                  go_wp2_with fail
                  refine (examine_any HV.out HT.out hn hcap k hlt HI.out.1 (by omega) (by omega) (by omega) hin.1 hin.2.1 (by omega)).mono ?_
                  rintro e w2 ⟨rfl, hb2, hnx⟩
                  rw [Hst.out] at hnx ⊢
                  obtain ⟨O', oc', HV'⟩ := hnx _ _ _ rfl
                  replace HV' := Lib.hid HV'
                  clear hnx
                  go_wp2_with fail
                  go_roundg q
                  case rel => exact ⟨k + 1, O', oc', hs', tr', m', by omega, by go_num, HI', HG', HV'⟩
                  case measure => omega
              · obtain rfl : gk = 0 := by omega
                obtain rfl : k = l.length := by omega
                have hil : l.length < hs.length := by rw [HI.out.1]; omega
                have z23 := HV.out.blk.cell 23 (v := .slice (some ⟨H, 0, none⟩) hs.length (l.length + 1)) rfl
                have z25 := HV.out.blk.cell 25 (v := .int .i64 m) rfl
                have zl := HV.out.blk.lt
                obtain ⟨g', e', y1, y2, y3, y4⟩ := HV.out.int_at l.length hil
                obtain rfl : H = g' := by simpa using e'
                have hig := ig_get hil
                have HR : Hid (verifyF l vars = if hs[l.length] ≠ 1 then (0, (l.length : Int), 7) else (m, 0, 0)) := by
                  show verifyF l vars = _
                  rw [← HG.out]; simp only [verGo]; rw [hig]
                generalize hs[l.length] = y at *
                have HV2 := Lib.hid HV.out.bel
                clear hig e'
                by_cases h1 : y = 1
                · have h1b : (y != 1) = false := by simpa using h1
                  go_wp2_with fail
                  go_ret3
                  refine ⟨?_, HV2.out⟩
                  rw [HR.out, if_neg (by simpa using h1)]; rfl
                · have h1b : (y != 1) = true := by simpa using h1
                  go_wp2_with fail
                  go_ret3
                  refine ⟨?_, HV2.out⟩
                  rw [HR.out, if_pos h1]; rfl

end Go.Proofs.YtaifafljakojnaaGreat

/- Contracts: machine.Run. -/
namespace Go.Proofs.YtaifafljakojnaaGreat
open Go.RowKit Go.Maps

def RetRun (r : Int × Int × Int) (w : World) (e : Ending) (w' : World) : Prop := e = .returned (.tuple #[.int .i64 r.1, .int .i64 r.2.1, .int .i64 r.2.2]) ∧ Bel w w'
theorem fnZero (w : World) : (zeroValue 72).run Tryz.prog w = .ok .nilFunc w := by kernel_rfl
theorem stepCall1 (a b : Value) (w : World) : (callFunc 54 #[a, b]).run Tryz.prog w = .ok (.enter 54 #[a, b]) w := by kernel_rfl
theorem stepCall2 (a b : Value) (w : World) : (callFunc 55 #[a, b]).run Tryz.prog w = .ok (.enter 55 #[a, b]) w := by kernel_rfl
theorem stepCall3 (a b : Value) (w : World) : (callFunc 56 #[a, b]).run Tryz.prog w = .ok (.enter 56 #[a, b]) w := by kernel_rfl
theorem stepCall4 (a b : Value) (w : World) : (callFunc 57 #[a, b]).run Tryz.prog w = .ok (.enter 57 #[a, b]) w := by kernel_rfl
theorem stepCall5 (a b : Value) (w : World) : (callFunc 58 #[a, b]).run Tryz.prog w = .ok (.enter 58 #[a, b]) w := by kernel_rfl
theorem stepCall6 (a b : Value) (w : World) : (callFunc 59 #[a, b]).run Tryz.prog w = .ok (.enter 59 #[a, b]) w := by kernel_rfl
theorem stepCall7 (a b : Value) (w : World) : (callFunc 60 #[a, b]).run Tryz.prog w = .ok (.enter 60 #[a, b]) w := by kernel_rfl
theorem stepCall8 (a b : Value) (w : World) : (callFunc 61 #[a, b]).run Tryz.prog w = .ok (.enter 61 #[a, b]) w := by kernel_rfl
theorem stepCall9 (a b : Value) (w : World) : (callFunc 62 #[a, b]).run Tryz.prog w = .ok (.enter 62 #[a, b]) w := by kernel_rfl
theorem stepCall10 (a b : Value) (w : World) : (callFunc 63 #[a, b]).run Tryz.prog w = .ok (.enter 63 #[a, b]) w := by kernel_rfl
theorem stepFn_call {op : Int} (h1 : 1 ≤ op) (h2 : op ≤ 10) (a b : Value) (w : World) : (callFunc (stepFn op) #[a, b]).run Tryz.prog w = .ok (.enter (stepFn op) #[a, b]) w := by
  have : op = 1 ∨ op = 2 ∨ op = 3 ∨ op = 4 ∨ op = 5 ∨ op = 6 ∨ op = 7 ∨ op = 8 ∨ op = 9 ∨ op = 10 := by omega
  rcases this with rfl | rfl | rfl | rfl | rfl | rfl | rfl | rfl | rfl | rfl
  · exact stepCall1 a b w
  · exact stepCall2 a b w
  · exact stepCall3 a b w
  · exact stepCall4 a b w
  · exact stepCall5 a b w
  · exact stepCall6 a b w
  · exact stepCall7 a b w
  · exact stepCall8 a b w
  · exact stepCall9 a b w
  · exact stepCall10 a b w
set_option maxRecDepth 100000 in
set_option maxHeartbeats 4000000 in
theorem machRun_any (L : Option Addr) (n c0 : Nat) (l : List Term) (v1 : Value) (p : Prg) (v2 : Value) (g : Graph) (v3 : Value) (c : Config) (v : Int) (w : World) (hT : TermsR w L n l) (hcap : n ≤ c0) (hn : n ≤ 100000) (h : PrgV w v1 p) (h2 : GraphV w v2 g) (h3 : ConfV w v3 c) (hL : lightP p = true) (hG : lightG g = true) (hC : lightC c = true) :
    Calls Tryz.prog 10 #[.slice L n c0, v1, v2, v3, .int .i64 v] w (RetRun (runF p g c v l) w) := by
  obtain rfl := hT.1
  have HPV := Lib.hid (fun w' (k : Bel w w') => h.keep k)
  have HGV := Lib.hid (fun w' (k : Bel w w') => h2.keep k)
  have HCV := Lib.hid (fun w' (k : Bel w w') => h3.keep k)
  obtain ⟨A1, k1, A2, k2, rfl, _, _, _, _, _, _⟩ := h
  obtain ⟨A3, k3, A4, k4, rfl, _, _, _, _, _, _⟩ := h2
  obtain ⟨A5, k5, rfl, _, _, _⟩ := h3
  have HW := Bel.refl ((w.alloc (.cells #[.string p.name, .slice A1 p.vars.length k1, .slice A2 p.rules.length k2] 26)).alloc (.cells #[.slice A3 g.ids.length k3, .slice A4 g.ports.length k4] 30))
  have HL := Lib.hid hL
  have HGL := Lib.hid hG
  have HCL := Lib.hid hC
  clear hL hG hC
  have HTV := Lib.hid (fun w' (k : Bel w w') => hT.keep k)
  clear hT
  have HF : Hid (runF p g c v l = if memF p g c ≠ 0 then (0, 0, memF p g c) else if ¬ (0 ≤ v ∧ v ≤ (c.length : Int) - 1) then (0, 0, 2) else if (verifyF l p.vars.length).2.2 ≠ 0 then (0, 0, 7)
  else ((execF g c v.toNat l).1.stack.headD 0, ((execF g c v.toNat l).2 : Int), 0)) := rfl
  by_cases hm : memF p g c = 0
  · rw [if_neg (by simpa using hm)] at HF
    have HK0 := Lib.hid hm
    have hlen : c.length = g.ids.length := by
      have h1 := (confB_iff.1 (mem_zero hm).2).1
      rw [tableF_length] at h1
      exact h1
    have hids : g.ids.length = g.ports.length := (fits_zero (mem_zero hm).1).2.1.ids
    have HLEN := Lib.hid hlen
    have hvl := (lightP_parts HL.out).2.1
    rcases Int.lt_or_le v 0 with hv0 | hv0
    · rw [if_pos (by omega)] at HF
      have hd1 : decide (v < 0) = true := by simpa using hv0
      clear hv0 hlen hids
      go_enter Tryz.func10, Tryz.ntmps10
      go_wp2_with (go_at_call 26; refine (memCheck_any _ p _ g _ c _ (HPV.out _ (box2_bel HW)) (HGV.out _ (box2_bel HW)) (HCV.out _ (box2_bel HW)) HL.out HGL.out HCL.out).mono ?_; rintro e w' ⟨rfl, hb⟩; rw [HK0.out]; replace HW := HW.trans hb; clear hb; (try clear p0 p1 p2 g0 g1 gsz); obtain ⟨p0, p1, p2, g0, g1, gsz⟩ := pgbox HW)
      go_ret3
      exact ⟨by rw [HF.out]; rfl, box2_bel HW⟩
    obtain ⟨q, rfl⟩ := Int.eq_ofNat_of_zero_le hv0
    have hd1 : decide ((q : Int) < 0) = false := by simpa using hv0
    clear hv0
    by_cases hq : q < c.length
    · rw [if_neg (by omega), Int.toNat_natCast] at HF
      have hd2 : decide ((g.ids.length : Int) ≤ (q : Int)) = false := by simp; omega
      have hd2' : decide (g.ids.length ≤ q) = false := by simp; omega
      have hqp : q < g.ports.length := by omega
      have HSK := Lib.hid (mem_sok (p := p) (g := g) (c := c) HK0.out hq)
      by_cases hvf : (verifyF l p.vars.length).2.2 = 0
      · rw [if_neg (by simpa using hvf)] at HF
        obtain ⟨h0, hl1024, H, T, hver, _⟩ := verify_ver hvf
        have HVR := Lib.hid (ver_max hver)
        have hvf1 : ((verifyF l p.vars.length).2.2 != 0) = false := by simpa using hvf
        obtain ⟨bL, oL, rfl, hbL, _, _⟩ := (HTV.out w (Bel.refl w)).at_ 0 h0
        obtain ⟨A', k', A2', k2', eG, _, _, _, hP, _, _⟩ := HGV.out w (Bel.refl w)
        obtain ⟨⟨rfl, rfl⟩, rfl, rfl⟩ : (A3 = A' ∧ k3 = k') ∧ A4 = A2' ∧ k4 = k2' := by simpa using eG
        obtain ⟨b4, o4, K, ck, rfl, hb4, hrow4, hL4, _, _⟩ := RowsAt.at_ hP q hqp
        have HL4 := Lib.hid (fun w' (k : Bel w w') => LinksR.keep (show LinksR w K g.ports[q].length g.ports[q] from hL4) k)
        obtain ⟨A', k', eC, hC, _, _⟩ := HCV.out w (Bel.refl w)
        obtain ⟨rfl, rfl⟩ : A5 = A' ∧ k5 = k' := by simpa using eC
        have HC4 := Lib.hid (fun w' (k : Bel w w') => RowsR.keep hC k)
        have hcell := Lib.hid (fun w' (kk : Bel ((w.alloc (.cells #[.string p.name, .slice A1 p.vars.length k1, .slice A2 p.rules.length k2] 26)).alloc (.cells #[.slice A3 g.ids.length k3, .slice (some ⟨b4, o4, none⟩) g.ports.length k4] 30)) w') => And.intro (pgbox kk) (((box2_bel kk).cell hb4).trans hrow4))
        have hdq : decide (q < g.ports.length) = true := by simpa using hqp
        have HFU := Lib.hid (fuel_le HSK.out hl1024)
        clear eG eC hP hC hL4 hrow4 hver hvf hlen hids hq
        go_enter Tryz.func10, Tryz.ntmps10
        go_wp2_with (first
          | (go_at_call 26; refine (memCheck_any _ p _ g _ c _ (HPV.out _ (box2_bel HW)) (HGV.out _ (box2_bel HW)) (HCV.out _ (box2_bel HW)) HL.out HGL.out HCL.out).mono ?_; rintro e w' ⟨rfl, hb⟩; rw [HK0.out]; replace HW := HW.trans hb; clear hb; (try clear p0 p1 p2 g0 g1 gsz); obtain ⟨p0, p1, p2, g0, g1, gsz⟩ := pgbox HW)
          | (go_at_call 17; refine (verify_any _ l.length c0 l _ _ (HTV.out _ (box2_bel HW)) hn hcap (by omega) (by omega)).mono ?_; rintro e w' ⟨rfl, hb⟩; replace HW := HW.trans hb; clear hb; (try clear p0 p1 p2 g0 g1 gsz); obtain ⟨p0, p1, p2, g0, g1, gsz⟩ := pgbox HW))
        replace HW := HW.drew
        clear p0 p1 p2 g0 g1 gsz
        go_region_held3 (fun w' => (w'.cell? ⟨w.heap.size, 0, none⟩ = some (.string p.name) ∧ w'.cell? ⟨w.heap.size, 1, none⟩ = some (.slice A1 p.vars.length k1) ∧ w'.cell? ⟨w.heap.size, 2, none⟩ = some (.slice A2 p.rules.length k2) ∧ w'.cell? ⟨w.heap.size + 1, 0, none⟩ = some (.slice A3 g.ids.length k3) ∧ w'.cell? ⟨w.heap.size + 1, 1, none⟩ = some (.slice (some ⟨b4, o4, none⟩) g.ports.length k4) ∧ w.heap.size + 1 < w'.heap.size) ∧ w'.cell? ⟨b4, o4 + q, none⟩ = some (.slice K g.ports[q].length ck)) (first | exact hcell.out _ HW | exact hcell.out _ (HW.alloc _))
          (first | (go_simp; go_at_call 27; refine (newScene_any _ p _ g _ (HPV.out _ (box2_bel HW)) (HGV.out _ (box2_bel HW)) HSK.out.gok).mono ?_; rintro e w1 ⟨Bs, rfl, hSc, _, hb⟩; have HSC := Lib.hid hSc; clear hSc; replace HW := HW.trans hb; clear hb))
        go_wp2_with (go_at_call 28; refine (instructions_any _).mono ?_; rintro e wT ⟨mb, nT, rfl, hTB, hmb, hmbl, hb2⟩)
        obtain ⟨k, hkB, hkv, hPM, hMc, hbx, hFn⟩ : ∃ k : Mc, k.B = w1.heap.size ∧ k.v = q ∧ PM k wT 0 [] [] ∧ McR k p g c l ∧ Bel ((w.alloc (.cells #[.string p.name, .slice A1 p.vars.length k1, .slice A2 p.rules.length k2] 26)).alloc (.cells #[.slice A3 g.ids.length k3, .slice (some ⟨b4, o4, none⟩) g.ports.length k4] 30)) k.w0 ∧ ∀ w' p st lps, PM k w' p st lps → FnR Tryz.prog 3 w' mb nT mTbl := by
          refine ⟨⟨w1, wT, w1.heap.size, some ⟨bL, oL, none⟩, l.length, c0, Bs, K, g.ports[q].length, ck, A5, c.length, k5, q⟩, rfl, rfl, ?_, ?_, HW, fun w' p st lps hp => ?_⟩
          · exact ⟨none, 0, none, 0, [], ⟨(Blk.new w1 _ _).keep hb2, Rw.nil _ _, Nat.le_refl _, by show w1.heap.size < wT.heap.size; have := hb2.size; simp at this; omega, box_bel hb2, World.grownBy.refl _ _⟩, rfl⟩
          · refine ⟨HTV.out _ (box2_bel HW), HSC.out, ?_, HC4.out _ (box2_bel HW)⟩
            rw [getD_eq hqp]
            exact HL4.out _ (box2_bel HW)
          · obtain ⟨A, c, L, lc, fr, hX, _⟩ := hp
            exact hTB.kept hX.grown (by show some mb ≠ some w1.heap.size; simp at hmb ⊢; omega)
        have HKP := Lib.hid hPM
        have HKM := Lib.hid hMc
        have HKX := Lib.hid hbx
        have HKF := Lib.hid hFn
        clear hPM hMc hbx hFn hTB hmb hmbl hb2 HW HSC
        subst hkv
        simp only [← hkB]
        clear hkB
        go_loopg [11, 19] (potM (envF g c k.v) l T startM) (fun m nv _x wr => ∃ (s : MS) (i : Nat), m = potM (envF g c k.v) l T s ∧ nv = .int .i64 i ∧ Hid (RunI p g c k.v l H T s i) ∧ Hid (PM k wr s.place s.stack s.loops))
        case atStart => exact ⟨startM, 0, rfl, rfl, RunI.start HVR.out, HKP⟩
        case round =>
          clear HKP
          obtain ⟨s, i, rfl, rfl, HR, HP⟩ := hrel
          obtain ⟨y0, y1, y2, y3, y4, y5, y6, yl, yb⟩ := HP.out.cells
          by_cases hlt : s.place < l.length
          · have hdl : decide (s.place < l.length) = true := by simpa using hlt
            obtain ⟨hN, hpt, hOK⟩ := HR.out.next HSK.out HVR.out hlt
            have hbx := HKX.out.trans yb
            obtain ⟨b5, o5, e5, hb5, t0, t1⟩ := (HTV.out _ (box2_bel hbx)).at_ s.place hlt
            obtain ⟨rfl, rfl⟩ : bL = b5 ∧ oL = o5 := by simpa using e5
            have hi : insAt l (s.place : Int) = l[s.place] := insAt_get hlt
            obtain ⟨tx, htx⟩ : ∃ tx : Term, tx = l[s.place] := ⟨_, rfl⟩
            rw [← htx] at t0 t1 hi
            clear htx
            have hpo := HR.out.pot
            have hsl := HR.out.slen
            have hll := HR.out.llen
            have hfu := HFU.out
            have hil : i ≤ 600000 := by omega
            have hnum := HR.out.inv.nums
            have hE := HR.out.places
            obtain ⟨o1, o2⟩ := hOK.op
            rw [hi] at o1 o2
            have HP2 : Hid (PM k ((wr.setCell ⟨k.B, 5, none⟩ (.int .i64 ((s.place : Int) + 1))).alloc (.cells #[.int .i64 tx.op, .int .i64 tx.arg] 43)) (s.place + 1) s.stack s.loops) := PM.keep (HP.out.goto (s.place + 1)) ((Bel.refl _).alloc _)
            have hEX := exec_any k p g c l HKM.out HSK.out s ((wr.setCell ⟨k.B, 5, none⟩ (.int .i64 ((s.place : Int) + 1))).alloc (.cells #[.int .i64 tx.op, .int .i64 tx.arg] 43)) (by omega) hlt hOK hnum HP2.out (by omega) (by omega) hE
            rw [hi] at hEX
            have HEX := Lib.hid hEX
            have hlk := (HKF.out _ _ _ _ HP2.out).look intKeyed Tryz.underlying70 (fnZero _) (keyOf_int_mk (P := Tryz.prog) (k := 3) (q := .i64) Tryz.underlying3 (a := tx.op) (WalkArith.wf_i64 (by omega))) (stepFn_mem (op := tx.op) o1 o2)
            have HNX := Lib.hid hN
            have hcf := stepFn_call o1 o2
            generalize stepFn tx.op = fx at *
            clear hEX hN hOK hnum hE hi e5 hpo hsl hll hfu o1 o2
            go_wp2_with fail
            refine HEX.out.mono ?_
            rintro e w' ⟨v, rfl, hm⟩
            have HPN := Lib.hid hm
            clear hm
            go_wp2_with fail
            go_roundg (potM (envF g c k.v) l T (stepM (envF g c k.v) l s))
            case rel => exact ⟨stepM (envF g c k.v) l s, i + 1, rfl, by go_num, HNX, HPN⟩
            case measure => omega
          · have hdl : decide (s.place < l.length) = false := by simpa using hlt
            obtain ⟨x, hx, hx2⟩ := HR.out.done HVR.out hlt
            have hil : i ≤ 600000 := by have := HR.out.pot; have := HFU.out; omega
            have HXF := Lib.hid hx2
            have HP2 : Hid (PM k wr l.length [x] []) := by
              have := HP.out
              rw [hx] at this
              exact this
            have hxr := HKX.out.trans yb
            have hx' := Lib.hid hx
            clear hx hx2 hlt
            go_wp2_with (go_at_call 29; refine (mPop_any k _ l.length x [] [] HP2.out (by decide)).mono ?_; rintro e w' ⟨rfl, hm⟩)
            go_ret3
            refine ⟨?_, (box2_bel HKX.out).trans hm.cells.2.2.2.2.2.2.2.2⟩
            rw [HF.out, HXF.out]
            rfl
      · rw [if_pos (by simpa using hvf)] at HF
        have hvf1 : ((verifyF l p.vars.length).2.2 != 0) = true := by simpa using hvf
        clear hvf hlen hids hq
        go_enter Tryz.func10, Tryz.ntmps10
        go_wp2_with (first
          | (go_at_call 26; refine (memCheck_any _ p _ g _ c _ (HPV.out _ (box2_bel HW)) (HGV.out _ (box2_bel HW)) (HCV.out _ (box2_bel HW)) HL.out HGL.out HCL.out).mono ?_; rintro e w' ⟨rfl, hb⟩; rw [HK0.out]; replace HW := HW.trans hb; clear hb; (try clear p0 p1 p2 g0 g1 gsz); obtain ⟨p0, p1, p2, g0, g1, gsz⟩ := pgbox HW)
          | (go_at_call 17; refine (verify_any L l.length c0 l _ _ (HTV.out _ (box2_bel HW)) hn hcap (by omega) (by omega)).mono ?_; rintro e w' ⟨rfl, hb⟩; replace HW := HW.trans hb; clear hb; (try clear p0 p1 p2 g0 g1 gsz); obtain ⟨p0, p1, p2, g0, g1, gsz⟩ := pgbox HW))
        go_ret3
        exact ⟨by rw [HF.out]; rfl, box2_bel HW⟩
    · rw [if_pos (by omega)] at HF
      have hd2 : decide ((g.ids.length : Int) ≤ (q : Int)) = true := by simp; omega
      have hd2' : decide (g.ids.length ≤ q) = true := by simp; omega
      clear hq hlen hids
      go_enter Tryz.func10, Tryz.ntmps10
      go_wp2_with (go_at_call 26; refine (memCheck_any _ p _ g _ c _ (HPV.out _ (box2_bel HW)) (HGV.out _ (box2_bel HW)) (HCV.out _ (box2_bel HW)) HL.out HGL.out HCL.out).mono ?_; rintro e w' ⟨rfl, hb⟩; rw [HK0.out]; replace HW := HW.trans hb; clear hb; (try clear p0 p1 p2 g0 g1 gsz); obtain ⟨p0, p1, p2, g0, g1, gsz⟩ := pgbox HW)
      go_ret3
      exact ⟨by rw [HF.out]; rfl, box2_bel HW⟩
  · rw [if_pos hm] at HF
    have hm1 : (memF p g c != 0) = true := by simpa using hm
    clear hm
    go_enter Tryz.func10, Tryz.ntmps10
    go_wp2_with (go_at_call 26; refine (memCheck_any _ p _ g _ c _ (HPV.out _ (box2_bel HW)) (HGV.out _ (box2_bel HW)) (HCV.out _ (box2_bel HW)) HL.out HGL.out HCL.out).mono ?_; rintro e w' ⟨rfl, hb⟩; replace HW := HW.trans hb; clear hb; (try clear p0 p1 p2 g0 g1 gsz); obtain ⟨p0, p1, p2, g0, g1, gsz⟩ := pgbox HW)
    go_ret3
    exact ⟨by rw [HF.out]; rfl, box2_bel HW⟩

end Go.Proofs.YtaifafljakojnaaGreat

/- Contracts of the small functions of the reference's Verify. -/
namespace Go.Proofs.YtaifafljakojnaaGreat
open Go.RowKit

theorem refIn_any (v lo hi : Int) (w : World) : Calls Tryz.prog 121 #[.int .i64 v, .int .i64 lo, .int .i64 hi] w fun e w' => e = .returned (.bool (decide (lo ≤ v ∧ v ≤ hi))) ∧ w = w' := by
  go_enter Tryz.func121, Tryz.ntmps121
  go_wp2
  all_goals
    go_ret
    refine ⟨ret_bool ?_, rfl⟩
    rw [Bool.eq_iff_iff]; simp; omega

set_option maxHeartbeats 1000000 in
theorem refNear_any (x : Term) (w : World) : Calls Tryz.prog 74 #[.agg #[.int .i64 x.op, .int .i64 x.arg]] w fun e w' => e = .returned (.bool (nearI x)) ∧ Bel w w' := by
  obtain ⟨op, arg⟩ := x
  go_enter Tryz.func74, Tryz.ntmps74
  go_wp2_with (go_at_call 121; refine (refIn_any _ _ _ _).mono ?_; rintro e w' ⟨rfl, rfl⟩)
  all_goals
    go_ret
    refine ⟨ret_bool ?_, (Bel.refl _).alloc _⟩
    (try simp only [beq_iff_eq, beq_eq_false_iff_ne, ne_eq] at *)
    unfold nearI
    rw [Bool.eq_iff_iff]
    simp [*]

set_option maxHeartbeats 2000000 in
theorem permitted_any (x : Term) (vars : Int) (w : World) : Calls Tryz.prog 73 #[.agg #[.int .i64 x.op, .int .i64 x.arg], .int .i64 vars] w fun e w' => e = .returned (.bool (permF x vars)) ∧ Bel w w' := by
  obtain ⟨op, arg⟩ := x
  go_enter Tryz.func73, Tryz.ntmps73
  go_wp2_with (first
    | (go_at_call 121; refine (refIn_any _ _ _ _).mono ?_; rintro e w' ⟨rfl, rfl⟩)
    | (go_at_call 93; refine (refAggregate_any _ _).mono ?_; rintro e w' ⟨rfl, rfl⟩))
  all_goals
    go_ret
    refine ⟨ret_bool ?_, (Bel.refl _).alloc _⟩
    (try simp only [beq_iff_eq, beq_eq_false_iff_ne, ne_eq] at *)
    unfold permF
    simp [*]
  all_goals first | omega | (rw [Bool.eq_iff_iff]; simp; omega)

theorem wants_any (op : Int) (w : World) : Calls Tryz.prog 75 #[.int .i64 op] w fun e w' => e = .returned (.int .i64 (wantsF op)) ∧ w = w' := by
  go_enter Tryz.func75, Tryz.ntmps75
  go_wp2
  all_goals
    go_ret
    refine ⟨ret_int ?_, rfl⟩
    (try simp only [beq_iff_eq, beq_eq_false_iff_ne, ne_eq] at *)
    unfold wantsF
    simp [*]

theorem lastP_get {op : List Int} (h : 0 < op.length) : op[op.length - 1]? = some (lastP op) := by
  unfold lastP
  rw [← List.getLast?_eq_getElem?]
  cases op with
  | nil => simp at h
  | cons x l => rfl

set_option maxRecDepth 100000 in
set_option maxHeartbeats 2000000 in
theorem refLoop_any (L : Option Addr) (n c : Nat) (l : List Term) (i : Nat) (O : Option Addr) (m oc : Nat) (op : List Int) (w : World) (h : TermsR w L n l) (hO : IntsR w O m op) (hn : n ≤ 1000000) (hi : i < n) (ho : ∀ e ∈ op, 0 ≤ e ∧ e < l.length) (hm : m ≤ 1000000) :
    Calls Tryz.prog 76 #[.slice L n c, .int .i64 i, .slice O m oc] w fun e w' => e = .returned (.bool (loopRF l i op)) ∧ w = w' := by
  obtain rfl := h.1
  obtain rfl := hO.1
  obtain ⟨b, o, rfl, hb, k1, k2⟩ := h.at_ i hi
  have HI := Lib.hid (insAt_get hi)
  have HO := Lib.hid ho; clear ho
  have H := Lib.hid h; clear h
  have H2 := Lib.hid hO; clear hO
  have HF : Hid (loopRF l i op = (decide ((i : Int) < l[i].arg) && decide (l[i].arg < l.length) && decide ((insAt l l[i].arg).op = 10) && decide (op.length ≠ 2) && (op.isEmpty || decide (l[i].arg < (insAt l (lastP op)).arg)))) := by
    show loopRF l i op = _
    unfold loopRF; rw [HI.out]
  generalize l[i].arg = a at *
  by_cases h1 : a ≤ (i : Int)
  · have hd1 : decide (a ≤ (i : Int)) = true := by simpa using h1
    go_enter Tryz.func76, Tryz.ntmps76
    go_wp2
    go_ret
    refine ⟨ret_bool ?_, rfl⟩
    rw [HF.out, show decide ((i : Int) < a) = false by simp; omega]; rfl
  have hd1 : decide (a ≤ (i : Int)) = false := by simpa using h1
  by_cases h2 : (l.length : Int) ≤ a
  · have hd2 : decide ((l.length : Int) ≤ a) = true := by simpa using h2
    go_enter Tryz.func76, Tryz.ntmps76
    go_wp2
    go_ret
    refine ⟨ret_bool ?_, rfl⟩
    rw [HF.out, show decide (a < (l.length : Int)) = false by simp; omega]; simp
  have hd2 : decide ((l.length : Int) ≤ a) = false := by simpa using h2
  obtain ⟨k, rfl⟩ := Int.eq_ofNat_of_zero_le (show 0 ≤ a by omega)
  have hk : k < l.length := by omega
  obtain ⟨b', o', e', _, q1, q2⟩ := H.out.at_ k hk
  obtain ⟨rfl, rfl⟩ : b = b' ∧ o = o' := by simpa using e'
  clear e'
  have HIk := Lib.hid (insAt_get hk)
  have hd1' : decide (k ≤ i) = false := by simp; omega
  have hd2' : decide (l.length ≤ k) = false := by simp; omega
  by_cases h10 : l[k].op = 10
  · have h10b : (l[k].op != 10) = false := by simp [h10]
    by_cases h3 : op.length = 2
    · have hd3 : ((op.length : Int) == 2) = true := by simp; omega
      go_enter Tryz.func76, Tryz.ntmps76
      go_wp2
      go_ret
      refine ⟨ret_bool ?_, rfl⟩
      rw [HF.out, show decide (op.length ≠ 2) = false by simpa using h3]; simp
    have hd3 : ((op.length : Int) == 2) = false := by rw [beq_eq_false_iff_ne]; omega
    have HF2 : Hid (loopRF l i op = (op.isEmpty || decide ((k : Int) < (insAt l (lastP op)).arg))) := by
      show loopRF l i op = _
      rw [HF.out, HIk.out, show decide ((i : Int) < (k : Int)) = true by simp; omega, show decide ((k : Int) < (l.length : Int)) = true by simp; omega, show decide (l[k].op = 10) = true by simpa using h10, show decide (op.length ≠ 2) = true by simpa using h3]
      rfl
    clear HF h1 h2 h3 h10
    rcases Nat.eq_zero_or_pos op.length with h0 | h0
    · obtain rfl : op = [] := List.eq_nil_of_length_eq_zero h0
      clear h0
      go_enter Tryz.func76, Tryz.ntmps76
      go_wp2
      go_ret
      exact ⟨ret_bool HF2.out.symm, rfl⟩
    · have hlast := lastP_get h0
      obtain ⟨he0, he1⟩ := HO.out (lastP op) (by have := (List.getElem?_eq_some_iff.1 hlast).2; rw [← this]; exact List.getElem_mem _)
      obtain ⟨m, hm'⟩ : ∃ m, op.length = m + 1 := ⟨op.length - 1, by omega⟩
      obtain ⟨pb, po, rfl, hpb, hpc⟩ := IntsR.at_ H2.out (op.length - 1) (by omega)
      rw [show op[op.length - 1] = lastP op from (List.getElem?_eq_some_iff.1 hlast).2] at hpc
      obtain ⟨z, hz⟩ := Int.eq_ofNat_of_zero_le he0
      rw [hz] at hpc
      have hzl : z < l.length := by omega
      obtain ⟨b', o', e', _, r1, r2⟩ := H.out.at_ z hzl
      obtain ⟨rfl, rfl⟩ : b = b' ∧ o = o' := by simpa using e'
      have HZ : Hid ((insAt l (lastP op)).arg = l[z].arg) := by show (insAt l (lastP op)).arg = _; rw [hz, insAt_get hzl]
      have hemp : Hid (op.isEmpty = false) := by show op.isEmpty = false; cases op with | nil => simp at h0 | cons => rfl
      rw [hm'] at hpc hm hd3 ⊢
      simp only [Nat.add_sub_cancel] at hpc
      clear hlast e' he0 he1 h0 hz
      have hd5 : ((m : Int) + 1 == 0) = false := by rw [beq_eq_false_iff_ne]; omega
      go_enter Tryz.func76, Tryz.ntmps76
      go_wp2
      go_ret
      refine ⟨ret_bool ?_, rfl⟩
      rw [HF2.out, hemp.out, HZ.out]; rfl
  · have h10b : (l[k].op != 10) = true := by simp [h10]
    go_enter Tryz.func76, Tryz.ntmps76
    go_wp2
    go_ret
    refine ⟨ret_bool ?_, rfl⟩
    rw [HF.out, HIk.out, show decide (l[k].op = 10) = false by simpa using h10]; simp

/-- The last open loop, and where it ends. -/
theorem last_facts {w : World} {O : Option Addr} {op : List Int} {l : List Term} (hO : IntsR w O op.length op) (ho : ∀ e ∈ op, 0 ≤ e ∧ e < l.length) (h0 : 0 < op.length) :
    ∃ (m z pb po : Nat), op.length = m + 1 ∧ O = some ⟨pb, po, none⟩ ∧ pb < w.heap.size ∧ w.cell? ⟨pb, po + m, none⟩ = some (.int .i64 (z : Int)) ∧ lastP op = (z : Int) ∧ z < l.length ∧ op.isEmpty = false := by
  have hlast := lastP_get h0
  obtain ⟨he0, he1⟩ := ho (lastP op) (by have := (List.getElem?_eq_some_iff.1 hlast).2; rw [← this]; exact List.getElem_mem _)
  obtain ⟨m, hm'⟩ : ∃ m, op.length = m + 1 := ⟨op.length - 1, by omega⟩
  obtain ⟨pb, po, rfl, hpb, hpc⟩ := IntsR.at_ hO (op.length - 1) (by omega)
  rw [show op[op.length - 1] = lastP op from (List.getElem?_eq_some_iff.1 hlast).2] at hpc
  obtain ⟨z, hz⟩ := Int.eq_ofNat_of_zero_le he0
  refine ⟨m, z, pb, po, hm', rfl, hpb, ?_, hz, by omega, by cases op with | nil => simp at h0 | cons => rfl⟩
  rw [hz, show op.length - 1 = m by omega] at hpc
  exact hpc

set_option maxRecDepth 100000 in
set_option maxHeartbeats 2000000 in
theorem refJump_any (L : Option Addr) (n c : Nat) (l : List Term) (i : Nat) (O : Option Addr) (m oc : Nat) (op : List Int) (w : World) (h : TermsR w L n l) (hO : IntsR w O m op) (hn : n ≤ 1000000) (hi : i < n) (ho : ∀ e ∈ op, 0 ≤ e ∧ e < l.length) (hm : m ≤ 1000000) :
    Calls Tryz.prog 77 #[.slice L n c, .int .i64 i, .slice O m oc] w fun e w' => e = .returned (.bool (jumpRF l i op)) ∧ w = w' := by
  obtain rfl := h.1
  obtain rfl := hO.1
  obtain ⟨b, o, rfl, hb, k1, k2⟩ := h.at_ i hi
  have HI := Lib.hid (insAt_get hi)
  have H := Lib.hid h; clear h
  have HF : Hid (jumpRF l i op = (decide ((i : Int) < l[i].arg) && decide (l[i].arg ≤ l.length) && (op.isEmpty || decide (l[i].arg ≤ (insAt l (lastP op)).arg)) && clearF l i l[i].arg)) := by
    show jumpRF l i op = _
    unfold jumpRF; rw [HI.out]
  generalize l[i].arg = a at *
  by_cases h1 : a ≤ (i : Int)
  · have hd1 : decide (a ≤ (i : Int)) = true := by simpa using h1
    clear hO ho
    go_enter Tryz.func77, Tryz.ntmps77
    go_wp2
    go_ret
    refine ⟨ret_bool ?_, rfl⟩
    rw [HF.out, show decide ((i : Int) < a) = false by simp; omega]; rfl
  have hd1 : decide (a ≤ (i : Int)) = false := by simpa using h1
  by_cases h2 : (l.length : Int) < a
  · have hd2 : decide ((l.length : Int) < a) = true := by simpa using h2
    clear hO ho
    go_enter Tryz.func77, Tryz.ntmps77
    go_wp2
    go_ret
    refine ⟨ret_bool ?_, rfl⟩
    rw [HF.out, show decide (a ≤ (l.length : Int)) = false by simp; omega]; simp
  have hd2 : decide ((l.length : Int) < a) = false := by simpa using h2
  obtain ⟨k, rfl⟩ := Int.eq_ofNat_of_zero_le (show 0 ≤ a by omega)
  have hkl : k ≤ l.length := by omega
  have hik : i < k := by omega
  have hd1' : decide (k ≤ i) = false := by simp; omega
  have hd2' : decide (l.length < k) = false := by simp; omega
  have hlenq := Lib.hid (show ((l.drop (i + 1)).take (k - (i + 1))).length = k - (i + 1) by rw [List.length_take, List.length_drop]; omega)
  have HC : Hid (clearF l i (k : Int) = ((l.drop (i + 1)).take (k - (i + 1))).all fun y => !(decide (y.op = 9) && decide ((k : Int) ≤ y.arg))) := by
    show clearF l i (k : Int) = _
    unfold clearF
    rw [show ((i : Int) + 1).toNat = i + 1 by omega, show ((k : Int) - ((i : Int) + 1)).toNat = k - (i + 1) by omega]
  have hfin : ∀ (hex : jumpRF l i op = clearF l i (k : Int)), Hid (jumpRF l i op = ((l.drop (i + 1)).take (k - (i + 1))).all fun y => !(decide (y.op = 9) && decide ((k : Int) ≤ y.arg))) := fun hex => by
    show jumpRF l i op = _
    rw [hex, HC.out]
  have Hqi : Hid (∀ j (hj : j < k - (i + 1)), ∃ t, ((l.drop (i + 1)).take (k - (i + 1)))[j]? = some t ∧ w.cell? ⟨b, o + (i + 1 + j) * 2, none⟩ = some (.int .i64 t.op) ∧ w.cell? ⟨b, o + (i + 1 + j) * 2 + 1, none⟩ = some (.int .i64 t.arg)) := by
    intro j hj
    have hjl : i + 1 + j < l.length := by omega
    obtain ⟨b', o', e', _, q1, q2⟩ := H.out.at_ (i + 1 + j) hjl
    obtain ⟨rfl, rfl⟩ : b = b' ∧ o = o' := by simpa using e'
    refine ⟨l[i + 1 + j], ?_, q1, q2⟩
    rw [List.getElem?_take, if_pos hj, List.getElem?_drop, List.getElem?_eq_getElem hjl]
  generalize hq : (l.drop (i + 1)).take (k - (i + 1)) = q at *
  have Hq := Lib.hid hq; clear hq
  have HFin := Lib.hid hfin; clear hfin
  rcases Nat.eq_zero_or_pos op.length with h0 | h0
  · obtain rfl : op = [] := List.eq_nil_of_length_eq_zero h0
    have HJ := HFin.out (by rw [HF.out, show decide ((i : Int) < (k : Int)) = true by simp; omega, show decide ((k : Int) ≤ (l.length : Int)) = true by simp; omega]; rfl)
    clear h0 hO ho HF h1 h2
    go_enter Tryz.func77, Tryz.ntmps77
    go_wp2
    go_loopg [8] (k - (i + 1)) (fun g iv wr => ∃ j : Nat, j + g = k - (i + 1) ∧ iv = .int .i64 ((i + 1 + j : Nat) : Int) ∧ Hid (jumpRF l i [] = (q.drop j).all fun y => !(decide (y.op = 9) && decide ((k : Int) ≤ y.arg))) ∧ w = wr)
    case atStart => exact ⟨0, by omega, rfl, HJ, rfl⟩
    case round =>
      obtain ⟨j, hj, rfl, HK, rfl⟩ := hrel
      by_cases hlt : j < k - (i + 1)
      · obtain ⟨t, ht, q1, q2⟩ := Hqi.out j hlt
        have HKs : Hid (((q.drop j).all fun y => !(decide (y.op = 9) && decide ((k : Int) ≤ y.arg))) = ((!(decide (t.op = 9) && decide ((k : Int) ≤ t.arg))) && (q.drop (j + 1)).all fun y => !(decide (y.op = 9) && decide ((k : Int) ≤ y.arg)))) := by
          show (q.drop j).all _ = _
          obtain ⟨hjq, rfl⟩ := List.getElem?_eq_some_iff.1 ht
          rw [List.drop_eq_getElem_cons hjq]; rfl
        have hin : i + 1 + j < l.length := by omega
        clear ht
        by_cases h9 : t.op = 9
        · have h9b : (t.op == 9) = true := by simpa using h9
          by_cases hge : (k : Int) ≤ t.arg
          · have hgb : decide ((k : Int) ≤ t.arg) = true := by simpa using hge
            go_wp2_with fail
            go_ret
            refine ⟨ret_bool ?_, rfl⟩
            rw [HK.out, HKs.out, hgb, show decide (t.op = 9) = true by simpa using h9]; rfl
          · have hgb : decide ((k : Int) ≤ t.arg) = false := by simpa using hge
            go_wp2_with fail
            go_roundg (gk - 1)
            case rel => exact ⟨j + 1, by omega, by go_num, by show jumpRF l i [] = _; rw [HK.out, HKs.out, hgb]; simp, rfl⟩
            case measure => omega
        · have h9b : (t.op == 9) = false := by simpa using h9
          go_wp2_with fail
          go_roundg (gk - 1)
          case rel => exact ⟨j + 1, by omega, by go_num, by show jumpRF l i [] = _; rw [HK.out, HKs.out, show decide (t.op = 9) = false by simpa using h9]; simp, rfl⟩
          case measure => omega
      · go_wp2_with fail
        go_ret
        refine ⟨ret_bool ?_, rfl⟩
        rw [HK.out, List.drop_eq_nil_of_le (by rw [hlenq.out]; omega)]; rfl
  · obtain ⟨m', z, pb, po, hm', rfl, hpb, hpc, hz, hzl, hemp⟩ := last_facts hO ho h0
    obtain ⟨b', o', e', _, r1, r2⟩ := H.out.at_ z hzl
    obtain ⟨rfl, rfl⟩ : b = b' ∧ o = o' := by simpa using e'
    have HZ : Hid ((insAt l (lastP op)).arg = l[z].arg) := by show (insAt l (lastP op)).arg = _; rw [hz, insAt_get hzl]
    have Hemp := Lib.hid hemp
    rw [hm'] at hm ⊢
    have hd5 : decide (0 < (m' : Int) + 1) = true := by simp <;> omega
    by_cases h3 : l[z].arg < (k : Int)
    · have hd3 : decide (l[z].arg < (k : Int)) = true := by simpa using h3
      have HE : Hid (jumpRF l i op = false) := by
        show jumpRF l i op = false
        rw [HF.out, Hemp.out, HZ.out, show decide ((k : Int) ≤ l[z].arg) = false by simp; omega]; simp
      clear e' h0 hz hO ho hm' hemp
      go_enter Tryz.func77, Tryz.ntmps77
      go_wp2
      go_ret
      exact ⟨ret_bool HE.out.symm, rfl⟩
    · have hd3 : decide (l[z].arg < (k : Int)) = false := by simpa using h3
      have HJ := HFin.out (by rw [HF.out, Hemp.out, HZ.out, show decide ((i : Int) < (k : Int)) = true by simp; omega, show decide ((k : Int) ≤ (l.length : Int)) = true by simp; omega, show decide ((k : Int) ≤ l[z].arg) = true by simp; omega]; rfl)
      clear e' h0 hz hO ho hm' hemp HF h1 h2 h3
      go_enter Tryz.func77, Tryz.ntmps77
      go_wp2
      go_loopg [8] (k - (i + 1)) (fun g iv wr => ∃ j : Nat, j + g = k - (i + 1) ∧ iv = .int .i64 ((i + 1 + j : Nat) : Int) ∧ Hid (jumpRF l i op = (q.drop j).all fun y => !(decide (y.op = 9) && decide ((k : Int) ≤ y.arg))) ∧ w = wr)
      case atStart => exact ⟨0, by omega, rfl, HJ, rfl⟩
      case round =>
        obtain ⟨j, hj, rfl, HK, rfl⟩ := hrel
        by_cases hlt : j < k - (i + 1)
        · obtain ⟨t, ht, q1, q2⟩ := Hqi.out j hlt
          have HKs : Hid (((q.drop j).all fun y => !(decide (y.op = 9) && decide ((k : Int) ≤ y.arg))) = ((!(decide (t.op = 9) && decide ((k : Int) ≤ t.arg))) && (q.drop (j + 1)).all fun y => !(decide (y.op = 9) && decide ((k : Int) ≤ y.arg)))) := by
            show (q.drop j).all _ = _
            obtain ⟨hjq, rfl⟩ := List.getElem?_eq_some_iff.1 ht
            rw [List.drop_eq_getElem_cons hjq]; rfl
          have hin : i + 1 + j < l.length := by omega
          clear ht
          by_cases h9 : t.op = 9
          · have h9b : (t.op == 9) = true := by simpa using h9
            by_cases hge : (k : Int) ≤ t.arg
            · have hgb : decide ((k : Int) ≤ t.arg) = true := by simpa using hge
              go_wp2_with fail
              go_ret
              refine ⟨ret_bool ?_, rfl⟩
              rw [HK.out, HKs.out, hgb, show decide (t.op = 9) = true by simpa using h9]; rfl
            · have hgb : decide ((k : Int) ≤ t.arg) = false := by simpa using hge
              go_wp2_with fail
              go_roundg (gk - 1)
              case rel => exact ⟨j + 1, by omega, by go_num, by show jumpRF l i op = _; rw [HK.out, HKs.out, hgb]; simp, rfl⟩
              case measure => omega
          · have h9b : (t.op == 9) = false := by simpa using h9
            go_wp2_with fail
            go_roundg (gk - 1)
            case rel => exact ⟨j + 1, by omega, by go_num, by show jumpRF l i op = _; rw [HK.out, HKs.out, show decide (t.op = 9) = false by simpa using h9]; simp, rfl⟩
            case measure => omega
        · go_wp2_with fail
          go_ret
          refine ⟨ret_bool ?_, rfl⟩
          rw [HK.out, List.drop_eq_nil_of_le (by rw [hlenq.out]; omega)]; rfl

end Go.Proofs.YtaifafljakojnaaGreat

