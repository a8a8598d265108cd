/- What two numbers have in common and what either has are together as much as both; what just one has is the difference. No condition is added: the bounds are those that the printed statement gives. -/
import Derived.Test.YtolacdlobopoiaaNum7
import Derived.Test.YtolacdlobopoiaaFactsB
namespace Go.Proofs.Ytolacdlobopoiaa.Pure
open Go.RowKit Go.Proofs.Ytolacdlobopoiaa.Num Go.Proofs.YtolacdlobopoiaaW.PrintWords Go.Proofs.YtolacdlobopoiaaW.PrintLast
set_option linter.unusedVariables false
set_option linter.unusedSimpArgs false

theorem NumBits : joinerylaw01_NumBits.Pure := by
  intro a b ha hb
  refine ⟨300, ?_⟩
  unfold joinerylaw01_NumBits.f
  simp only [do_add, do_sub, do_and, do_or, do_xor, Option.bind_some, knows1_is 300 (by omega)]
  rw [if_pos (and_add_or a b), if_pos (or_sub_and a b), if_pos (xor_back a b (w64_of ha))]

end Go.Proofs.Ytolacdlobopoiaa.Pure
