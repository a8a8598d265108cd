/- env: EnvV -/
import Derived.Test.YtolacdlobopoiaaNum0
import Derived.Test.YtolacdlobopoiaaEnvU
namespace Go.Proofs.Ytolacdlobopoiaa.Num
open Go.RowKit Go.Proofs.YtolacdlobopoiaaW.PrintWords Go.Proofs.YtolacdlobopoiaaW.PrintLast Go.Proofs.YtolacdlobopoiaaW.PrintMore
attribute [local go_sem] max2_int min2_int max_two min_two max_three min_three max_four min_four   -- for this text's walks alone
set_option linter.unusedVariables false
set_option linter.unusedSimpArgs false

def srcS : Sr → S90
  | .was l => ⟨0, l⟩
  | .is n => ⟨1, n⟩
  | .no => ⟨2, 0⟩
theorem info90s : (Try.prog.info? 90).map (·.size) = some 2 := by kernel_rfl
set_option maxHeartbeats 1000000 in
set_option maxRecDepth 100000 in
theorem env_AsSource (s : Sr) (w : World) : Calls Try.prog 55 #[s.v] w fun e w' => e = .returned (.agg #[.int .i64 (srcS s).f0, .int .i64 (srcS s).f1]) ∧ Below w.heap.size w w' := by
  have t1 := ta_was
  have t2 := ta_was_is
  have t3 := ta_is_was
  have t4 := ta_is
  have t5 := ta_no_was
  have t6 := ta_no_is
  cases s with
  | was l =>
    simp only [Sr.v, srcS]
    go_enter Try.func55, Try.ntmps55
    go_wp2
    exact bodyPost_ret (v := .agg #[.int .i64 0, .int .i64 l]) (results_cell_row rfl _ _ w.heap.size 90 #[.int .i64 0, .int .i64 l] (0, 0) _ rfl (heap_alloc2_old w _ _) Try.underlying90 rfl info90s) rfl ⟨rfl, below_alloc (below_alloc (Below.refl _ _) _) _⟩
  | is l =>
    simp only [Sr.v, srcS]
    go_enter Try.func55, Try.ntmps55
    go_wp2
    exact bodyPost_ret (v := .agg #[.int .i64 1, .int .i64 l]) (results_cell_row rfl _ _ w.heap.size 90 #[.int .i64 1, .int .i64 l] (0, 0) _ rfl (box3 w _ _ _) Try.underlying90 rfl info90s) rfl ⟨rfl, below_alloc (below_alloc (below_alloc (Below.refl _ _) _) _) _⟩
  | no =>
    simp only [Sr.v, srcS]
    go_enter Try.func55, Try.ntmps55
    go_wp2
    exact bodyPost_ret (v := .agg #[.int .i64 2, .int .i64 0]) (results_cell_row rfl _ _ w.heap.size 90 #[.int .i64 2, .int .i64 0] (0, 0) _ rfl (box3 w _ _ _) Try.underlying90 rfl info90s) rfl ⟨rfl, below_alloc (below_alloc (below_alloc (Below.refl _ _) _) _) _⟩

end Go.Proofs.Ytolacdlobopoiaa.Num
