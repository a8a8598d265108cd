/- Sums and products are the same in both orders; a difference takes back a sum; a number with itself, bit by bit, is it; just one of less, greater, alike holds. No condition is added: the bounds are those that the printed statement gives. -/
import Derived.Test.YtolacdlobopoiaaNum6
import Derived.Test.YtolacdlobopoiaaFactsB
namespace Go.Proofs.Ytolacdlobopoiaa.Pure
open Go.RowKit Go.Proofs.Ytolacdlobopoiaa.Num Go.Proofs.YtolacdlobopoiaaW.PrintWords Go.Proofs.YtolacdlobopoiaaW.PrintLast
set_option linter.unusedVariables false
set_option linter.unusedSimpArgs false

theorem NumLaws : joinerylaw01_NumLaws.Pure := by
  intro a b ha hb
  have wa := w64_of ha
  have wb := w64_of hb
  refine ⟨300, ?_⟩
  unfold joinerylaw01_NumLaws.f
  simp only [do_add, do_sub, do_mul, do_and, do_or, do_less, do_same, Option.bind_some, knows1_is 300 (by omega)]
  have e1 : wrap64 (wrap64 (a + b) - b) = a := by unfold W64 at wa; unfold wrap64; omega
  have e2 : wrap64 (wrap64 ((if a < b then (1 : Int) else 0) + (if b < a then 1 else 0)) + (if a = b then 1 else 0)) = 1 := by
    rcases Int.lt_trichotomy a b with h | h | h
    · rw [if_pos h, if_neg (by omega), if_neg (by omega)]; decide +kernel
    · subst h
      rw [if_neg (by omega), if_pos rfl]; decide +kernel
    · rw [if_neg (by omega), if_pos h, if_neg (by omega)]; decide +kernel
  rw [if_pos (by rw [Int.add_comm]), if_pos e1, if_pos (by rw [Int.mul_comm]), if_pos (and_self64 a wa), if_pos (or_self64 a wa), if_pos e2]

end Go.Proofs.Ytolacdlobopoiaa.Pure
