/- Sums, and products, of three numbers are the same however they are taken; and products are spread over sums. No condition is added: the bounds are those that the printed statement gives. -/
import Derived.Test.YtolacdlobopoiaaNum7
import Derived.Test.YtolacdlobopoiaaFactsB
namespace Go.Proofs.Ytolacdlobopoiaa.Pure
open Go.RowKit Go.Proofs.Ytolacdlobopoiaa.Num Go.Proofs.YtolacdlobopoiaaW.PrintWords Go.Proofs.YtolacdlobopoiaaW.PrintLast
set_option linter.unusedVariables false
set_option linter.unusedSimpArgs false

theorem NumOrders : joinerylaw01_NumOrders.Pure := by
  intro a b c ha hb hc
  refine ⟨300, ?_⟩
  unfold joinerylaw01_NumOrders.f
  simp only [do_add, do_mul, Option.bind_some, knows1_is 300 (by omega)]
  rw [if_pos (by rw [wrap_add_left, wrap_add_right, Int.add_assoc]), if_pos (by rw [wrap_mul_right, wrap_add_left, wrap_add_right, Int.mul_add]), if_pos (by rw [wrap_mul_left, wrap_mul_right, Int.mul_assoc])]

end Go.Proofs.Ytolacdlobopoiaa.Pure
