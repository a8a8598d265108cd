/- Numbers have the digits that the reference says, and texts are read as it says, or the error is told. No condition is added: the bounds are those that the printed statement gives. -/
import Derived.Test.YtolacdlobopoiaaNum6
import Derived.Test.YtolacdlobopoiaaFactsN
namespace Go.Proofs.Ytolacdlobopoiaa.Pure
open Go.RowKit Go.Proofs.Ytolacdlobopoiaa.Num Go.Proofs.YtolacdlobopoiaaW.PrintWords Go.Proofs.YtolacdlobopoiaaW.PrintLast
set_option linter.unusedVariables false
set_option linter.unusedSimpArgs false

theorem NumTexts : joinerylaw01_NumTexts.Pure := by
  intro a0 a1 hw _
  have hn := w64_of hw
  refine ⟨300, ?_⟩
  unfold joinerylaw01_NumTexts.f
  by_cases h : (a1.size : Int) > 1000
  · rw [if_pos h, knows1_is 300 (by omega)]
    rfl
  · rw [if_neg h, ref_parse1_is a1 300 (by omega), num_text_ge a0 hn 300 (by omega), ref_text_is a0 hn 300 (by omega), knows1_is 300 (by omega)]
    unfold num_Parse.f
    simp only [Option.bind_some, if_true]
    cases num_Parse.num a1 with
    | none => rfl
    | some n => simp

end Go.Proofs.Ytolacdlobopoiaa.Pure
