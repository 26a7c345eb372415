/- The contract of Verify of the program. -/
import Derived.Test.YtnhhedecaejgcaaW12j
namespace Go.Proofs.Ytnhhedecaejgcaa
open Go.RowKit

def zerosV : Array Value := #[.slice none 0 0, .int .i64 0, .int .i64 0, .int .i64 0, .int .i64 0, .int .i64 0, .int .i64 0, .int .i64 0, .int .i64 0, .int .i64 0, .int .i64 0, .int .i64 0, .int .i64 0, .int .i64 0, .int .i64 0, .int .i64 0, .int .i64 0, .int .i64 0, .int .i64 0, .int .i64 0, .int .i64 0, .int .i64 0, .int .i64 0, .slice none 0 0, .slice none 0 0, .int .i64 0]
theorem run_allocV (w : World) : (Instr.alloc 55 true (.tuple #[])).run Try.prog w = .ok (.pointer (some ⟨w.heap.size, 0, none⟩)) (w.alloc (.cells zerosV 55)) := by kernel_rfl

def RetVer (l : List Term) (vars : Int) (w : World) (e : Ending) (w' : World) : Prop :=
  e = .returned (.tuple #[.int .i64 (verifyF l vars).1, .int .i64 (verifyF l vars).2.1, .int .i64 (verifyF l vars).2.2]) ∧ Bel w w'

theorem start_ver {w wx : World} {G Hm : Nat} {L : Option Addr} {n c m : Nat} {v : Int} (hG : w.heap.size ≤ G) (hblk : Blk wx G zerosV 55) (hown : wx.ownsRow w.heap.size 3 1 (.slice (some ⟨Hm, 0, none⟩) m m) m (List.replicate m (.int .i64 0))) (HB : Bel w wx) :
    VerSt w G (wx.setRow G (verCells (.slice L n c) v (.slice (some ⟨Hm, 0, none⟩) m m) (.slice none 0 0) 0)) L n c v (some ⟨Hm, 0, none⟩) m (List.replicate m 0) none 0 [] 0 := by
  have hne := hblk.apart hown (by decide)
  have hg := grown_row wx G (verCells (.slice L n c) v (.slice (some ⟨Hm, 0, none⟩) m m) (.slice none 0 0) 0)
  have e : (List.replicate m (0 : Int)).length = m := List.length_replicate
  refine ⟨hG, ?_, ?_, World.ownsRow_nil _ _ _ _, HB.grown hg (fun k hk => by injection hk with hk; omega)⟩
  · rw [e]; exact hblk.row _
  · rw [e, List.map_replicate]; exact hown.kept hg (.inr (fun e => hne e.symm))

theorem set_rep (k n : Nat) (h : k < n) : (List.replicate k (-1 : Int) ++ List.replicate (n - k) 0).set k (-1) = List.replicate (k + 1) (-1) ++ List.replicate (n - (k + 1)) 0 := by
  rw [List.set_append_right _ _ (by simp), List.length_replicate, Nat.sub_self, show n - k = (n - (k + 1)) + 1 by omega, List.replicate_succ, List.set_cons_zero, List.replicate_succ', List.append_assoc]
  rfl

set_option maxRecDepth 100000 in
set_option maxHeartbeats 12000000 in
theorem verify_any (L : Option Addr) (n c : Nat) (l : List Term) (vars : Int) (w : World) (hT : TermsR w L n l) (hn : n ≤ 100000) (hcap : n ≤ c) (h0 : 0 ≤ vars) (h1 : vars ≤ 1000000) :
    Calls Try.prog 16 #[.slice L n c, .int .i64 vars] w (RetVer l vars w) := by
  obtain rfl := hT.1
  have HT := Lib.hid hT; clear hT
  by_cases hz : l.length = 0
  · have HF : Hid (verifyF l vars = (0, 0, 3)) := by show verifyF l vars = _; unfold verifyF; rw [if_pos (.inl hz)]
    obtain rfl : l = [] := List.eq_nil_of_length_eq_zero hz
    clear hz
    go_enter Try.func16, Try.ntmps16
    go_wp2
    go_ret3
    exact ⟨by rw [HF.out]; rfl, Bel.refl _⟩
  · have hzb : ((l.length : Int) == 0) = false := by rw [beq_eq_false_iff_ne]; omega
    by_cases hbig : 1024 < l.length
    · have hbb : decide (1024 < (l.length : Int)) = true := by simp; omega
      have HF : Hid (verifyF l vars = (0, 0, 3)) := by show verifyF l vars = _; unfold verifyF; rw [if_pos (.inr hbig)]
      go_enter Try.func16, Try.ntmps16
      go_wp2
      go_ret3
      exact ⟨by rw [HF.out]; rfl, Bel.refl _⟩
    · have hbb : decide (1024 < (l.length : Int)) = false := by simp; omega
      have HF : Hid (verifyF l vars = verGo l vars l.length 0 (0 :: List.replicate l.length (-1)) [] 0) := by
        show verifyF l vars = _
        unfold verifyF; rw [if_neg (by omega), Int.max_eq_left h0]
      obtain ⟨i0, hi0, hz0, hz1, hz2⟩ := info_parts int_info
      have hl4 : l.length ≤ 1024 := by omega
      have hpos : 0 < l.length := by omega
      have HB := (Bel.refl w).drew
      have hw1 : IntKind.i64.wrap ((l.length : Int) + 1) = (l.length : Int) + 1 := IntWalk.i64_in _ (by omega)
      go_enter Try.func16, Try.ntmps16
      go_upto_region 3 with fail
      go_cut [7] (fun pv wc => ∃ g H : Nat, pv = .pointer (some ⟨g, 0, none⟩) ∧ Hid (VerSt w g wc L l.length c vars (some ⟨H, 0, none⟩) (l.length + 1) (List.replicate (l.length + 1) 0) none 0 [] 0))
      case first =>
        refine wp_region_any (by kernel_rfl) ?_
        change wpAny _ _ _ _ _ _ _ (World.drew _)
        refine wpAny_take (i := 0) (v := .slice L l.length c) rfl (by kernel_rfl) (by kernel_rfl) (by kernel_rfl) (fun _ _ _ h => h) (Or.inl ⟨by rfl, ?_⟩) ?_
        · intro w; go_simp
        refine wpAny_take (i := 1) (v := .int .i64 vars) rfl (by kernel_rfl) (by kernel_rfl) (by kernel_rfl) (fun _ _ _ h => h) (Or.inl ⟨by rfl, ?_⟩) ?_
        · intro w; go_simp
        refine wpAny_take (i := 3) (v := .slice L l.length c) rfl (by kernel_rfl) (by kernel_rfl) (by kernel_rfl) (fun _ _ _ h => h) (Or.inl ⟨by rfl, ?_⟩) ?_
        · intro w; go_simp
        refine wpAny_take (i := 4) (v := .int .i64 (l.length : Int)) rfl (by kernel_rfl) (by kernel_rfl) (by kernel_rfl) (fun _ _ _ h => h) (Or.inl ⟨by rfl, ?_⟩) ?_
        · intro w; go_simp
        refine wpAny_take (i := 5) (v := .int .i64 ((l.length : Int) + 1)) rfl (by kernel_rfl) (by kernel_rfl) (by kernel_rfl) (fun _ _ _ h => h) (Or.inl ⟨by rfl, ?_⟩) ?_
        · intro w; go_simp
        refine wpAny_ready (rs := [2, 6, 8]) (by kernel_rfl) (by simp) ?_
        refine AllReady.cons rfl (fun K hK => ?_) ?_
        · go_simp
          refine (limits_any _ _ h0 h1).mono ?_
          rintro e wl ⟨rfl, hbl⟩
          replace HB := HB.trans hbl
          clear hbl
          try go_simp
          refine hK _ _ ?_; clear hK K
          refine wpAny_ready (rs := [6, 8]) (by kernel_rfl) (by simp) ?_
          refine AllReady.cons rfl (fun K hK => ?_) ?_
          · refine step_make _ rfl 52 (.tmp 24) (.tmp 24) rfl w.heap.size 3 i0 (.int .i64 0) 1 Try.underlying52 hi0 hz0 hz1 .i64 .i64 (l.length + 1) (by kernel_rfl) (by kernel_rfl) (by rw [hz2]; omega) (by unfold maxLen; omega) HB.size ?_
            intro Hm wm hown hbl
            rw [made_one _ rfl] at hown
            replace HB := HB.trans hbl
            clear hbl
            try go_simp
            refine hK _ _ ?_; clear hK K
            refine wpAny_ready (rs := [7, 8]) (by kernel_rfl) (by simp) ?_
            refine AllReady.cons rfl (fun K hK => ?_) ?_
            · refine step_build rfl 55 _ rfl (verCells (.slice L l.length c) vars (.slice (some ⟨Hm, 0, none⟩) (l.length + 1) (l.length + 1)) (.slice none 0 0) 0) (by kernel_rfl) ?_
              try go_simp
              refine hK _ _ ?_; clear hK K
              refine wpAny_ready (rs := [8]) (by kernel_rfl) (by simp) ?_
              refine AllReady.cons rfl (fun K hK => ?_) AllReady.nil
              refine step_alloc _ rfl 55 rfl zerosV (run_allocV _) ?_
              intro G wa hG hblk hbl
              replace hG := Nat.le_trans HB.size hG
              replace hown := hbl.owns hown
              replace HB := HB.trans hbl
              clear hbl
              try go_simp
              refine hK _ _ ?_; clear hK K
              refine wpAny_ready (rs := [9]) (by kernel_rfl) (by simp) ?_
              refine AllReady.cons rfl (fun K hK => ?_) AllReady.nil
              refine step_storeRow rfl 55 (.tmp 7) (.tmp 26) rfl G (verCells (.slice L l.length c) vars (.slice (some ⟨Hm, 0, none⟩) (l.length + 1) (l.length + 1)) (.slice none 0 0) 0) (by kernel_rfl) (by kernel_rfl) 55 zerosV hblk (by kernel_rfl) (by rfl) (by simp [verCells, Value.oneCell']) ?_
              try go_simp
              refine hK _ _ ?_; clear hK K
              refine wpAny_done (by kernel_rfl) ?_ _
              go_wp2_with fail
              go_meet
              exact ⟨G, Hm, rfl, start_ver hG hblk hown HB⟩
            refine AllReady.cons rfl (fun K hK => ?_) AllReady.nil
            refine step_alloc _ rfl 55 rfl zerosV (run_allocV _) ?_
            intro G wa hG hblk hbl
            replace hG := Nat.le_trans HB.size hG
            replace hown := hbl.owns hown
            replace HB := HB.trans hbl
            clear hbl
            try go_simp
            refine hK _ _ ?_; clear hK K
            refine wpAny_ready (rs := [7]) (by kernel_rfl) (by simp) ?_
            refine AllReady.cons rfl (fun K hK => ?_) AllReady.nil
            refine step_build rfl 55 _ rfl (verCells (.slice L l.length c) vars (.slice (some ⟨Hm, 0, none⟩) (l.length + 1) (l.length + 1)) (.slice none 0 0) 0) (by kernel_rfl) ?_
            try go_simp
            refine hK _ _ ?_; clear hK K
            refine wpAny_ready (rs := [9]) (by kernel_rfl) (by simp) ?_
            refine AllReady.cons rfl (fun K hK => ?_) AllReady.nil
            refine step_storeRow rfl 55 (.tmp 7) (.tmp 26) rfl G (verCells (.slice L l.length c) vars (.slice (some ⟨Hm, 0, none⟩) (l.length + 1) (l.length + 1)) (.slice none 0 0) 0) (by kernel_rfl) (by kernel_rfl) 55 zerosV hblk (by kernel_rfl) (by rfl) (by simp [verCells, Value.oneCell']) ?_
            try go_simp
            refine hK _ _ ?_; clear hK K
            refine wpAny_done (by kernel_rfl) ?_ _
            go_wp2_with fail
            go_meet
            exact ⟨G, Hm, rfl, start_ver hG hblk hown HB⟩
          refine AllReady.cons rfl (fun K hK => ?_) AllReady.nil
          refine step_alloc _ rfl 55 rfl zerosV (run_allocV _) ?_
          intro G wa hG hblk hbl
          replace hG := Nat.le_trans HB.size hG
          replace HB := HB.trans hbl
          clear hbl
          try go_simp
          refine hK _ _ ?_; clear hK K
          refine wpAny_ready (rs := [6]) (by kernel_rfl) (by simp) ?_
          refine AllReady.cons rfl (fun K hK => ?_) AllReady.nil
          refine step_make _ rfl 52 (.tmp 24) (.tmp 24) rfl w.heap.size 3 i0 (.int .i64 0) 1 Try.underlying52 hi0 hz0 hz1 .i64 .i64 (l.length + 1) (by kernel_rfl) (by kernel_rfl) (by rw [hz2]; omega) (by unfold maxLen; omega) HB.size ?_
          intro Hm wm hown hbl
          rw [made_one _ rfl] at hown
          replace hblk := hblk.keep hbl
          replace HB := HB.trans hbl
          clear hbl
          try go_simp
          refine hK _ _ ?_; clear hK K
          refine wpAny_ready (rs := [7]) (by kernel_rfl) (by simp) ?_
          refine AllReady.cons rfl (fun K hK => ?_) AllReady.nil
          refine step_build rfl 55 _ rfl (verCells (.slice L l.length c) vars (.slice (some ⟨Hm, 0, none⟩) (l.length + 1) (l.length + 1)) (.slice none 0 0) 0) (by kernel_rfl) ?_
          try go_simp
          refine hK _ _ ?_; clear hK K
          refine wpAny_ready (rs := [9]) (by kernel_rfl) (by simp) ?_
          refine AllReady.cons rfl (fun K hK => ?_) AllReady.nil
          refine step_storeRow rfl 55 (.tmp 7) (.tmp 26) rfl G (verCells (.slice L l.length c) vars (.slice (some ⟨Hm, 0, none⟩) (l.length + 1) (l.length + 1)) (.slice none 0 0) 0) (by kernel_rfl) (by kernel_rfl) 55 zerosV hblk (by kernel_rfl) (by rfl) (by simp [verCells, Value.oneCell']) ?_
          try go_simp
          refine hK _ _ ?_; clear hK K
          refine wpAny_done (by kernel_rfl) ?_ _
          go_wp2_with fail
          go_meet
          exact ⟨G, Hm, rfl, start_ver hG hblk hown HB⟩
        refine AllReady.cons rfl (fun K hK => ?_) ?_
        · refine step_make _ rfl 52 (.tmp 24) (.tmp 24) rfl w.heap.size 3 i0 (.int .i64 0) 1 Try.underlying52 hi0 hz0 hz1 .i64 .i64 (l.length + 1) (by kernel_rfl) (by kernel_rfl) (by rw [hz2]; omega) (by unfold maxLen; omega) HB.size ?_
          intro Hm wm hown hbl
          rw [made_one _ rfl] at hown
          replace HB := HB.trans hbl
          clear hbl
          try go_simp
          refine hK _ _ ?_; clear hK K
          refine wpAny_ready (rs := [2, 8]) (by kernel_rfl) (by simp) ?_
          refine AllReady.cons rfl (fun K hK => ?_) ?_
          · go_simp
            refine (limits_any _ _ h0 h1).mono ?_
            rintro e wl ⟨rfl, hbl⟩
            replace hown := hbl.owns hown
            replace HB := HB.trans hbl
            clear hbl
            try go_simp
            refine hK _ _ ?_; clear hK K
            refine wpAny_ready (rs := [7, 8]) (by kernel_rfl) (by simp) ?_
            refine AllReady.cons rfl (fun K hK => ?_) ?_
            · refine step_build rfl 55 _ rfl (verCells (.slice L l.length c) vars (.slice (some ⟨Hm, 0, none⟩) (l.length + 1) (l.length + 1)) (.slice none 0 0) 0) (by kernel_rfl) ?_
              try go_simp
              refine hK _ _ ?_; clear hK K
              refine wpAny_ready (rs := [8]) (by kernel_rfl) (by simp) ?_
              refine AllReady.cons rfl (fun K hK => ?_) AllReady.nil
              refine step_alloc _ rfl 55 rfl zerosV (run_allocV _) ?_
              intro G wa hG hblk hbl
              replace hG := Nat.le_trans HB.size hG
              replace hown := hbl.owns hown
              replace HB := HB.trans hbl
              clear hbl
              try go_simp
              refine hK _ _ ?_; clear hK K
              refine wpAny_ready (rs := [9]) (by kernel_rfl) (by simp) ?_
              refine AllReady.cons rfl (fun K hK => ?_) AllReady.nil
              refine step_storeRow rfl 55 (.tmp 7) (.tmp 26) rfl G (verCells (.slice L l.length c) vars (.slice (some ⟨Hm, 0, none⟩) (l.length + 1) (l.length + 1)) (.slice none 0 0) 0) (by kernel_rfl) (by kernel_rfl) 55 zerosV hblk (by kernel_rfl) (by rfl) (by simp [verCells, Value.oneCell']) ?_
              try go_simp
              refine hK _ _ ?_; clear hK K
              refine wpAny_done (by kernel_rfl) ?_ _
              go_wp2_with fail
              go_meet
              exact ⟨G, Hm, rfl, start_ver hG hblk hown HB⟩
            refine AllReady.cons rfl (fun K hK => ?_) AllReady.nil
            refine step_alloc _ rfl 55 rfl zerosV (run_allocV _) ?_
            intro G wa hG hblk hbl
            replace hG := Nat.le_trans HB.size hG
            replace hown := hbl.owns hown
            replace HB := HB.trans hbl
            clear hbl
            try go_simp
            refine hK _ _ ?_; clear hK K
            refine wpAny_ready (rs := [7]) (by kernel_rfl) (by simp) ?_
            refine AllReady.cons rfl (fun K hK => ?_) AllReady.nil
            refine step_build rfl 55 _ rfl (verCells (.slice L l.length c) vars (.slice (some ⟨Hm, 0, none⟩) (l.length + 1) (l.length + 1)) (.slice none 0 0) 0) (by kernel_rfl) ?_
            try go_simp
            refine hK _ _ ?_; clear hK K
            refine wpAny_ready (rs := [9]) (by kernel_rfl) (by simp) ?_
            refine AllReady.cons rfl (fun K hK => ?_) AllReady.nil
            refine step_storeRow rfl 55 (.tmp 7) (.tmp 26) rfl G (verCells (.slice L l.length c) vars (.slice (some ⟨Hm, 0, none⟩) (l.length + 1) (l.length + 1)) (.slice none 0 0) 0) (by kernel_rfl) (by kernel_rfl) 55 zerosV hblk (by kernel_rfl) (by rfl) (by simp [verCells, Value.oneCell']) ?_
            try go_simp
            refine hK _ _ ?_; clear hK K
            refine wpAny_done (by kernel_rfl) ?_ _
            go_wp2_with fail
            go_meet
            exact ⟨G, Hm, rfl, start_ver hG hblk hown HB⟩
          refine AllReady.cons rfl (fun K hK => ?_) AllReady.nil
          refine step_alloc _ rfl 55 rfl zerosV (run_allocV _) ?_
          intro G wa hG hblk hbl
          replace hG := Nat.le_trans HB.size hG
          replace hown := hbl.owns hown
          replace HB := HB.trans hbl
          clear hbl
          try go_simp
          refine hK _ _ ?_; clear hK K
          refine wpAny_ready (rs := [2]) (by kernel_rfl) (by simp) ?_
          refine AllReady.cons rfl (fun K hK => ?_) AllReady.nil
          go_simp
          refine (limits_any _ _ h0 h1).mono ?_
          rintro e wl ⟨rfl, hbl⟩
          replace hown := hbl.owns hown
          replace hblk := hblk.keep hbl
          replace HB := HB.trans hbl
          clear hbl
          try go_simp
          refine hK _ _ ?_; clear hK K
          refine wpAny_ready (rs := [7]) (by kernel_rfl) (by simp) ?_
          refine AllReady.cons rfl (fun K hK => ?_) AllReady.nil
          refine step_build rfl 55 _ rfl (verCells (.slice L l.length c) vars (.slice (some ⟨Hm, 0, none⟩) (l.length + 1) (l.length + 1)) (.slice none 0 0) 0) (by kernel_rfl) ?_
          try go_simp
          refine hK _ _ ?_; clear hK K
          refine wpAny_ready (rs := [9]) (by kernel_rfl) (by simp) ?_
          refine AllReady.cons rfl (fun K hK => ?_) AllReady.nil
          refine step_storeRow rfl 55 (.tmp 7) (.tmp 26) rfl G (verCells (.slice L l.length c) vars (.slice (some ⟨Hm, 0, none⟩) (l.length + 1) (l.length + 1)) (.slice none 0 0) 0) (by kernel_rfl) (by kernel_rfl) 55 zerosV hblk (by kernel_rfl) (by rfl) (by simp [verCells, Value.oneCell']) ?_
          try go_simp
          refine hK _ _ ?_; clear hK K
          refine wpAny_done (by kernel_rfl) ?_ _
          go_wp2_with fail
          go_meet
          exact ⟨G, Hm, rfl, start_ver hG hblk hown HB⟩
        refine AllReady.cons rfl (fun K hK => ?_) AllReady.nil
        refine step_alloc _ rfl 55 rfl zerosV (run_allocV _) ?_
        intro G wa hG hblk hbl
        replace hG := Nat.le_trans HB.size hG
        replace HB := HB.trans hbl
        clear hbl
        try go_simp
        refine hK _ _ ?_; clear hK K
        refine wpAny_ready (rs := [2, 6]) (by kernel_rfl) (by simp) ?_
        refine AllReady.cons rfl (fun K hK => ?_) ?_
        · go_simp
          refine (limits_any _ _ h0 h1).mono ?_
          rintro e wl ⟨rfl, hbl⟩
          replace hblk := hblk.keep hbl
          replace HB := HB.trans hbl
          clear hbl
          try go_simp
          refine hK _ _ ?_; clear hK K
          refine wpAny_ready (rs := [6]) (by kernel_rfl) (by simp) ?_
          refine AllReady.cons rfl (fun K hK => ?_) AllReady.nil
          refine step_make _ rfl 52 (.tmp 24) (.tmp 24) rfl w.heap.size 3 i0 (.int .i64 0) 1 Try.underlying52 hi0 hz0 hz1 .i64 .i64 (l.length + 1) (by kernel_rfl) (by kernel_rfl) (by rw [hz2]; omega) (by unfold maxLen; omega) HB.size ?_
          intro Hm wm hown hbl
          rw [made_one _ rfl] at hown
          replace hblk := hblk.keep hbl
          replace HB := HB.trans hbl
          clear hbl
          try go_simp
          refine hK _ _ ?_; clear hK K
          refine wpAny_ready (rs := [7]) (by kernel_rfl) (by simp) ?_
          refine AllReady.cons rfl (fun K hK => ?_) AllReady.nil
          refine step_build rfl 55 _ rfl (verCells (.slice L l.length c) vars (.slice (some ⟨Hm, 0, none⟩) (l.length + 1) (l.length + 1)) (.slice none 0 0) 0) (by kernel_rfl) ?_
          try go_simp
          refine hK _ _ ?_; clear hK K
          refine wpAny_ready (rs := [9]) (by kernel_rfl) (by simp) ?_
          refine AllReady.cons rfl (fun K hK => ?_) AllReady.nil
          refine step_storeRow rfl 55 (.tmp 7) (.tmp 26) rfl G (verCells (.slice L l.length c) vars (.slice (some ⟨Hm, 0, none⟩) (l.length + 1) (l.length + 1)) (.slice none 0 0) 0) (by kernel_rfl) (by kernel_rfl) 55 zerosV hblk (by kernel_rfl) (by rfl) (by simp [verCells, Value.oneCell']) ?_
          try go_simp
          refine hK _ _ ?_; clear hK K
          refine wpAny_done (by kernel_rfl) ?_ _
          go_wp2_with fail
          go_meet
          exact ⟨G, Hm, rfl, start_ver hG hblk hown HB⟩
        refine AllReady.cons rfl (fun K hK => ?_) AllReady.nil
        refine step_make _ rfl 52 (.tmp 24) (.tmp 24) rfl w.heap.size 3 i0 (.int .i64 0) 1 Try.underlying52 hi0 hz0 hz1 .i64 .i64 (l.length + 1) (by kernel_rfl) (by kernel_rfl) (by rw [hz2]; omega) (by unfold maxLen; omega) HB.size ?_
        intro Hm wm hown hbl
        rw [made_one _ rfl] at hown
        replace hblk := hblk.keep hbl
        replace HB := HB.trans hbl
        clear hbl
        try go_simp
        refine hK _ _ ?_; clear hK K
        refine wpAny_ready (rs := [2]) (by kernel_rfl) (by simp) ?_
        refine AllReady.cons rfl (fun K hK => ?_) AllReady.nil
        go_simp
        refine (limits_any _ _ h0 h1).mono ?_
        rintro e wl ⟨rfl, hbl⟩
        replace hown := hbl.owns hown
        replace hblk := hblk.keep hbl
        replace HB := HB.trans hbl
        clear hbl
        try go_simp
        refine hK _ _ ?_; clear hK K
        refine wpAny_ready (rs := [7]) (by kernel_rfl) (by simp) ?_
        refine AllReady.cons rfl (fun K hK => ?_) AllReady.nil
        refine step_build rfl 55 _ rfl (verCells (.slice L l.length c) vars (.slice (some ⟨Hm, 0, none⟩) (l.length + 1) (l.length + 1)) (.slice none 0 0) 0) (by kernel_rfl) ?_
        try go_simp
        refine hK _ _ ?_; clear hK K
        refine wpAny_ready (rs := [9]) (by kernel_rfl) (by simp) ?_
        refine AllReady.cons rfl (fun K hK => ?_) AllReady.nil
        refine step_storeRow rfl 55 (.tmp 7) (.tmp 26) rfl G (verCells (.slice L l.length c) vars (.slice (some ⟨Hm, 0, none⟩) (l.length + 1) (l.length + 1)) (.slice none 0 0) 0) (by kernel_rfl) (by kernel_rfl) 55 zerosV hblk (by kernel_rfl) (by rfl) (by simp [verCells, Value.oneCell']) ?_
        try go_simp
        refine hK _ _ ?_; clear hK K
        refine wpAny_done (by kernel_rfl) ?_ _
        go_wp2_with fail
        go_meet
        exact ⟨G, Hm, rfl, start_ver hG hblk hown HB⟩
      case rest =>
        obtain ⟨g, H, rfl, HV0⟩ := hcut
        clear hw1 HB
        have hlr : (List.replicate (l.length + 1) (0 : Int)).length = l.length + 1 := List.length_replicate
        have z23 := HV0.out.blk.cell 23 (v := .slice (some ⟨H, 0, none⟩) (List.replicate (l.length + 1) (0 : Int)).length (l.length + 1)) rfl
        rw [hlr] at z23
        have zl := HV0.out.blk.lt
        clear hlr
        go_wp2_with fail
        go_loopg [30] (l.length + 1) (fun gg iv wr => ∃ k : Nat, k + gg = l.length + 1 ∧ iv = .int .i64 k ∧ Hid (VerSt w g wr L l.length c vars (some ⟨H, 0, none⟩) (l.length + 1) (List.replicate k (-1) ++ List.replicate (l.length + 1 - k) 0) none 0 [] 0))
        case atStart => exact ⟨0, by omega, rfl, by simpa using HV0⟩
        case round =>
          clear z23 zl
          obtain ⟨k, hk, rfl, HV⟩ := hrel
          have hlen : (List.replicate k (-1 : Int) ++ List.replicate (l.length + 1 - k) 0).length = l.length + 1 := by simp; omega
          have z23 := HV.out.blk.cell 23 (v := .slice (some ⟨H, 0, none⟩) (List.replicate k (-1 : Int) ++ List.replicate (l.length + 1 - k) 0).length (l.length + 1)) rfl
          rw [hlen] at z23
          have zl := HV.out.blk.lt
          by_cases hlt : k < l.length + 1
          · obtain ⟨g', e', y1, y2, y3, y4⟩ := HV.out.int_at k (by rw [hlen]; exact hlt)
            obtain rfl : H = g' := by simpa using e'
            obtain ⟨yv, hyv⟩ : ∃ yv : Int, wr.cell? ⟨H, k, none⟩ = some (.int .i64 yv) := ⟨_, y2⟩
            clear y2
            obtain ⟨s1, s2⟩ := HV.out.setH k (-1)
            rw [set_rep k (l.length + 1) hlt] at s1
            replace s1 := Lib.hid s1
            clear hlen e' s2
            go_wp2_with fail
            go_roundg (gk - 1)
            case rel => exact ⟨k + 1, by omega, by go_num, s1⟩
            case measure => omega
          · obtain rfl : k = l.length + 1 := by omega
            rw [Nat.sub_self, List.replicate_zero, List.append_nil] at HV
            have hlen2 : (List.replicate (l.length + 1) (-1 : Int)).length = l.length + 1 := List.length_replicate
            obtain ⟨g', e', y1, y2, y3, y4⟩ := HV.out.int_at 0 (by rw [hlen2]; omega)
            obtain rfl : H = g' := by simpa using e'
            obtain ⟨yv, hyv⟩ : ∃ yv : Int, wr.cell? ⟨H, 0, none⟩ = some (.int .i64 yv) := ⟨_, y2⟩
            clear y2
            obtain ⟨s1, s2⟩ := HV.out.setH 0 0
            rw [List.replicate_succ, List.set_cons_zero] at s1
            replace s1 := Lib.hid s1
            obtain ⟨wq, hwq⟩ : ∃ wq : World, wq = wr := ⟨_, rfl⟩
            subst hwq
            clear hlen hlen2 e' s2 hk hlt
            go_wp2_with fail
            go_loopg [43] l.length (fun gg iv wr => ∃ (k : Nat) (O : Option Addr) (oc : Nat) (hs : List Int) (tr : List Tr) (m : Int), k + gg = l.length ∧ iv = .int .i64 k ∧ Hid (VInv l hs tr) ∧ Hid (verGo l vars gg k hs tr m = verifyF l vars) ∧ Hid (VerSt w g wr L l.length c vars (some ⟨H, 0, none⟩) (l.length + 1) hs O oc tr m))
            case atStart => exact ⟨0, none, 0, _, [], 0, by omega, rfl, start_inv l, HF.out.symm, s1⟩
            case round =>
              clear z23 zl y1 hyv y3 y4 s1 HV
              obtain ⟨k, O, oc, hs, tr, m, hk, rfl, HI, HG, HV⟩ := hrel
              by_cases hlt : k < l.length
              · obtain ⟨q, rfl⟩ : ∃ q, gk = q + 1 := ⟨gk - 1, by omega⟩
                have hil : k < hs.length := by rw [HI.out.1]; omega
                have hyy := HI.out.2.1 hs[k] (List.getElem_mem _)
                rw [← ig_get hil] at hyy
                have hin := inner_inv HI.out
                have hT2 := HI.out.2.2.1
                cases hst : stepP l vars k hs tr m with
                | mk r e2 =>
                have Hst := Lib.hid hst; clear hst
                cases r with
                | none =>
                  have he2 : (e2 != 0) = true := by rcases stepP_none Hst.out with rfl | rfl <;> rfl
                  have HR : Hid (verifyF l vars = (0, (k : Int), e2)) := by
                    show verifyF l vars = _
                    rw [← HG.out]; simp only [verGo, Hst.out]
                  go_wp2_with fail
                  refine (examine_any HV.out HT.out hn hcap k hlt HI.out.1 (by omega) (by omega) (by omega) hin.1 hin.2.1 (by omega)).mono ?_
                  rintro e w2 ⟨rfl, hb2, _⟩
                  rw [Hst.out]
                  go_wp2_with fail
                  go_ret3
                  exact ⟨by rw [HR.out]; rfl, hb2⟩
                | some p =>
                  obtain ⟨hs', tr', m'⟩ := p
                  obtain rfl : e2 = 0 := (stepP_some Hst.out).2.2.2.2
                  have HI' := Lib.hid (stepP_inv hlt HI.out Hst.out)
                  have HG' : Hid (verGo l vars q (k + 1) hs' tr' m' = verifyF l vars) := by
                    show verGo l vars q (k + 1) hs' tr' m' = _
                    rw [← HG.out]; simp only [verGo, Hst.out]
                  go_wp2_with fail
                  refine (examine_any HV.out HT.out hn hcap k hlt HI.out.1 (by omega) (by omega) (by omega) hin.1 hin.2.1 (by omega)).mono ?_
                  rintro e w2 ⟨rfl, hb2, hnx⟩
                  rw [Hst.out] at hnx ⊢
                  obtain ⟨O', oc', HV'⟩ := hnx _ _ _ rfl
                  replace HV' := Lib.hid HV'
                  clear hnx
                  go_wp2_with fail
                  go_roundg q
                  case rel => exact ⟨k + 1, O', oc', hs', tr', m', by omega, by go_num, HI', HG', HV'⟩
                  case measure => omega
              · obtain rfl : gk = 0 := by omega
                obtain rfl : k = l.length := by omega
                have hil : l.length < hs.length := by rw [HI.out.1]; omega
                have z23 := HV.out.blk.cell 23 (v := .slice (some ⟨H, 0, none⟩) hs.length (l.length + 1)) rfl
                have z25 := HV.out.blk.cell 25 (v := .int .i64 m) rfl
                have zl := HV.out.blk.lt
                obtain ⟨g', e', y1, y2, y3, y4⟩ := HV.out.int_at l.length hil
                obtain rfl : H = g' := by simpa using e'
                have hig := ig_get hil
                have HR : Hid (verifyF l vars = if hs[l.length] ≠ 1 then (0, (l.length : Int), 7) else (m, 0, 0)) := by
                  show verifyF l vars = _
                  rw [← HG.out]; simp only [verGo]; rw [hig]
                generalize hs[l.length] = y at *
                have HV2 := Lib.hid HV.out.bel
                clear hig e'
                by_cases h1 : y = 1
                · have h1b : (y != 1) = false := by simpa using h1
                  go_wp2_with fail
                  go_ret3
                  refine ⟨?_, HV2.out⟩
                  rw [HR.out, if_neg (by simpa using h1)]; rfl
                · have h1b : (y != 1) = true := by simpa using h1
                  go_wp2_with fail
                  go_ret3
                  refine ⟨?_, HV2.out⟩
                  rw [HR.out, if_pos h1]; rfl

end Go.Proofs.Ytnhhedecaejgcaa
