/- Contracts of limits and Verify of the program. -/
import Derived.Test.YtnhhedecaejgcaaW12i
import Derived.Test.YtnhhedecaejgcaaSteps
import Derived.Test.YtnhhedecaejgcaaP12w
namespace Go.Proofs.Ytnhhedecaejgcaa
open Go.RowKit

def limC (v : Int) : Array Value := #[.int .i64 0, .int .i64 (-1), .int .i64 (-1073741824), .int .i64 1073741824, .int .i64 0, .int .i64 (v - 1), .int .i64 0, .int .i64 (v - 1), .int .i64 6, .int .i64 17, .int .i64 18, .int .i64 19, .int .i64 30, .int .i64 42, .int .i64 0, .int .i64 1024, .int .i64 0, .int .i64 1024, .int .i64 0, .int .i64 1024, .int .i64 20, .int .i64 29]

theorem run_two (a b : Int) (w : World) : (Instr.build 49 #[(0, .int .i64 a), (1, .int .i64 b)]).run Try.prog w = .ok (.agg #[.int .i64 a, .int .i64 b]) w := run_build w _ _ _ (by kernel_rfl)
theorem run_lim (v : Int) (w : World) : (Instr.build 50 #[(0, .agg #[.int .i64 0, .int .i64 (-1)]), (1, .agg #[.int .i64 (-1073741824), .int .i64 1073741824]), (2, .agg #[.int .i64 0, .int .i64 (v - 1)]), (3, .agg #[.int .i64 0, .int .i64 (v - 1)]), (4, .agg #[.int .i64 6, .int .i64 17]), (5, .agg #[.int .i64 18, .int .i64 19]), (6, .agg #[.int .i64 30, .int .i64 42]), (7, .agg #[.int .i64 0, .int .i64 1024]), (8, .agg #[.int .i64 0, .int .i64 1024]), (9, .agg #[.int .i64 0, .int .i64 1024]), (10, .agg #[.int .i64 20, .int .i64 29])]).run Try.prog w = .ok (.agg (limC v)) w := run_build w _ _ _ (by kernel_rfl)

set_option maxRecDepth 100000 in
set_option maxHeartbeats 1000000 in
theorem limits_any (vars : Int) (w : World) (h0 : 0 ≤ vars) (h1 : vars ≤ 1000000) :
    Calls Try.prog 28 #[.int .i64 vars] w fun e w' => e = .returned (.agg (limC vars)) ∧ Bel w w' := by
  have r1 := run_two
  go_enter Try.func28, Try.ntmps28
  go_upto_region 3 with fail
  refine wp_region_lit ?_
  iterate 55 go_step
  refine wp_build_is 50 _ rfl (limC vars) (by kernel_rfl) ?_
  go_step
  refine wpList_store_row rfl 50 (.tmp 2) (.tmp 24) rfl w.heap.size (limC vars) (by kernel_rfl) (by kernel_rfl) 50 _ (heap_new _ _) (by kernel_rfl) (by rfl) (by simp [limC, Value.oneCell']) ?_
  rw [World.setRow_alloc_new]
  apply wpList_nil
  iterate 4 go_step
  exact bodyPost_ret (v := .agg (limC vars)) (results_cell_row rfl _ _ w.heap.size 50 (limC vars) (0, 0) _ (by kernel_rfl) (heap_new _ _) Try.underlying50 rfl (by kernel_rfl)) rfl ⟨rfl, (Bel.refl _).alloc _⟩

end Go.Proofs.Ytnhhedecaejgcaa
