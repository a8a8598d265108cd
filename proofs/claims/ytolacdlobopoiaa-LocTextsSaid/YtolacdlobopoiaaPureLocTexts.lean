/- Which numbers are places, which registers, and their texts, is what the reference says, or the error is told. No condition is added: the bounds are those that the printed statement gives. -/
import Derived.Test.YtolacdlobopoiaaNum2
import Derived.Test.YtolacdlobopoiaaFactsL
namespace Go.Proofs.Ytolacdlobopoiaa.Pure
open Go.RowKit Go.Proofs.Ytolacdlobopoiaa.Num Go.Proofs.YtolacdlobopoiaaW.PrintWords Go.Proofs.YtolacdlobopoiaaW.PrintLast
set_option linter.unusedVariables false
set_option linter.unusedSimpArgs false

theorem LocTexts : joinerylaw02_LocTexts.Pure := by
  intro a0 _
  refine ⟨50, ?_⟩
  unfold joinerylaw02_LocTexts.f
  by_cases h : 0 ≤ a0 ∧ a0 ≤ 23
  · rw [loc_text_in a0 h.1 h.2, right_is, reg_is, decide_eq_true h]
    simp only [Option.bind_some]
    have e1 : decide (a0 < 24) = true := decide_eq_true (by omega)
    have e2 : decide (a0 < 8) = decide (0 ≤ a0 ∧ a0 ≤ 7) := by rw [decide_eq_decide]; omega
    have e3 : ¬ a0 < 0 := by omega
    have e4 : decide (a0 > 23) = false := decide_eq_false (by omega)
    rw [if_pos (show a0 ≥ 0 from h.1), e1, e2]
    simp only [bne_self_eq_false, Bool.false_eq_true, if_false, joinerylaw02_LocTexts.j0, joinerylaw02_LocTexts.j1, if_neg e3, e4, ref_text_in a0 h.1 h.2 48 (by omega), Option.bind_some, if_true, knows_is]
  · rw [loc_text_out a0 h, right_is, reg_is, decide_eq_false h]
    have e2 : decide (0 ≤ a0 ∧ a0 ≤ 7) = false := decide_eq_false (by omega)
    have e5 : (ByteArray.toList ⟨#[]⟩) = ([] : List UInt8) := by rw [ByteArray.toList_eq]
    simp only [Option.bind_some, e2]
    by_cases h0 : a0 ≥ 0
    · have e1 : decide (a0 < 24) = false := decide_eq_false (by omega)
      have e3 : decide (a0 < 8) = false := decide_eq_false (by omega)
      have e4 : decide (a0 > 23) = true := decide_eq_true (by omega)
      have e6 : ¬ a0 < 0 := by omega
      rw [if_pos h0, e1, e3]
      simp only [bne_self_eq_false, Bool.false_eq_true, if_false, joinerylaw02_LocTexts.j0, joinerylaw02_LocTexts.j1, if_neg e6, e4, if_true, e5, knows_is, Option.bind_some]
    · have e6 : a0 < 0 := by omega
      rw [if_neg h0]
      simp only [bne_self_eq_false, Bool.false_eq_true, if_false, joinerylaw02_LocTexts.j0, joinerylaw02_LocTexts.j1, if_pos e6, if_true, e5, knows_is, Option.bind_some]

end Go.Proofs.Ytolacdlobopoiaa.Pure
