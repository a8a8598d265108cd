/- Digits are read as the number, and what was read has just these digits. No condition is added: the bounds are those that the printed statement gives. -/
import Derived.Test.YtolacdlobopoiaaNum6
import Derived.Test.YtolacdlobopoiaaFactsN
namespace Go.Proofs.Ytolacdlobopoiaa.Pure
open Go.RowKit Go.Proofs.Ytolacdlobopoiaa.Num Go.Proofs.YtolacdlobopoiaaW.PrintWords Go.Proofs.YtolacdlobopoiaaW.PrintLast
set_option linter.unusedVariables false
set_option linter.unusedSimpArgs false

theorem NumBack : joinerylaw01_NumBack.Pure := by
  intro a0 a1 hw _
  have hn := w64_of hw
  refine ⟨300, ?_⟩
  unfold joinerylaw01_NumBack.f
  by_cases h : (a1.size : Int) > 1000
  · rw [if_pos h, knows1_is 300 (by omega)]
    rfl
  · rw [if_neg h, num_text_ge a0 hn 300 (by omega), knows1_is 300 (by omega)]
    unfold num_Parse.f
    simp only [Option.bind_some, parse_tx a0 hn, if_true]
    cases hp : num_Parse.num a1 with
    | none => rfl
    | some n =>
      obtain ⟨hw2, e⟩ := parse_some hp
      simp only [if_true]
      rw [num_text_ge n hw2 300 (by omega)]
      simp only [Option.bind_some]
      rw [if_pos ((toList_iff _ _).mpr e.symm)]

end Go.Proofs.Ytolacdlobopoiaa.Pure
