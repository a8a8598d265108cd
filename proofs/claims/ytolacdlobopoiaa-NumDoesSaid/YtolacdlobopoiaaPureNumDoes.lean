/- What comes of an operation is what the reference says. No condition is added: the bounds are those that the printed statement gives. -/
import Derived.Test.YtolacdlobopoiaaNum5
import Derived.Test.YtolacdlobopoiaaFactsB
namespace Go.Proofs.Ytolacdlobopoiaa.Pure
open Go.RowKit Go.Proofs.Ytolacdlobopoiaa.Num Go.Proofs.YtolacdlobopoiaaW.PrintWords Go.Proofs.YtolacdlobopoiaaW.PrintLast
set_option linter.unusedVariables false
set_option linter.unusedSimpArgs false

theorem ref_do (op a b : Int) (ha : W64 a) (hb : W64 b) : joineryref01_Do.f op a b = num_Do.f op a b := by
  unfold joineryref01_Do.f num_Do.f num_Do.v
  unfold W64 at ha hb
  by_cases c4 : op = 4
  · rw [if_pos c4, if_pos c4]
  rw [if_neg c4, if_neg c4]
  by_cases c5 : op = 5
  · rw [if_pos c5, if_pos c5, wrap_add_right, Int.sub_eq_add_neg]
  rw [if_neg c5, if_neg c5]
  by_cases c6 : op = 6
  · rw [if_pos c6, if_pos c6]
  rw [if_neg c6, if_neg c6]
  by_cases c7 : op = 7
  · rw [if_pos c7, if_pos c7]
    by_cases b0 : b = 0
    · rw [if_pos b0, if_pos b0]
    · rw [if_neg b0, if_neg b0]
      by_cases b1 : b = -1
      · subst b1
        rw [if_pos rfl, Int.tdiv_neg, Int.tdiv_one]
      · rw [if_neg b1]
  rw [if_neg c7, if_neg c7]
  by_cases c8 : op = 8
  · rw [if_pos c8, if_pos c8]
  rw [if_neg c8, if_neg c8]
  by_cases c9 : op = 9
  · rw [if_pos c9, if_pos c9]
  rw [if_neg c9, if_neg c9]
  by_cases c10 : op = 10
  · rw [if_pos c10, if_pos c10, or_sub_and]
  rw [if_neg c10, if_neg c10]
  by_cases c11 : op = 11
  · rw [if_pos c11, if_pos c11]
    by_cases h : a < b
    · rw [if_pos (show b > a from h), if_pos h]
    · rw [if_neg (show ¬ b > a from h), if_neg h]
  rw [if_neg c11, if_neg c11]
  by_cases c12 : op = 12
  · rw [if_pos c12, if_pos c12]
    by_cases h : a < b
    · rw [if_pos h, if_neg (by omega)]
    · rw [if_neg h]
      by_cases h2 : a > b
      · rw [if_pos h2, if_neg (by omega)]
      · rw [if_neg h2, if_pos (by omega)]
  rw [if_neg c12, if_neg c12]
theorem NumDoes : joinerylaw01_NumDoes.Pure := by
  intro op a b _ ha hb
  refine ⟨300, ?_⟩
  unfold joinerylaw01_NumDoes.f
  rw [ref_do op a b (w64_of ha) (w64_of hb), knows1_is 300 (by omega)]
  have hh : joineryref01_Has.f op = some (decide (4 ≤ op ∧ op ≤ 12)) := by
    unfold joineryref01_Has.f
    by_cases h : op ≥ 4
    · rw [if_pos h]
      congr 1
      rw [decide_eq_decide]
      omega
    · rw [if_neg h]
      congr 1
      exact (decide_eq_false (by omega)).symm
  rw [hh]
  unfold num_Do.f num_Has.f
  simp

end Go.Proofs.Ytolacdlobopoiaa.Pure
