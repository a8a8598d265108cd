/- A text is the place that the reference says, or the error is told. No condition is added: the bounds are those that the printed statement gives. -/
import Derived.Test.YtolacdlobopoiaaNum2
import Derived.Test.YtolacdlobopoiaaFactsL
namespace Go.Proofs.Ytolacdlobopoiaa.Pure
open Go.RowKit Go.Proofs.Ytolacdlobopoiaa.Num Go.Proofs.YtolacdlobopoiaaW.PrintWords Go.Proofs.YtolacdlobopoiaaW.PrintLast
set_option linter.unusedVariables false
set_option linter.unusedSimpArgs false

theorem LocParses : joinerylaw02_LocParses.Pure := by
  intro a0 _
  refine ⟨50, ?_⟩
  unfold joinerylaw02_LocParses.f
  by_cases h : (a0.size : Int) > 1000
  · rw [if_pos h, knows_is]
    rfl
  · rw [if_neg h, ref_parse_is a0 50 (by omega)]
    unfold loc_Parse.f
    simp only [Option.bind_some, knows_is]
    cases loc_Parse.place a0 with
    | none => rfl
    | some l => simp

end Go.Proofs.Ytolacdlobopoiaa.Pure
