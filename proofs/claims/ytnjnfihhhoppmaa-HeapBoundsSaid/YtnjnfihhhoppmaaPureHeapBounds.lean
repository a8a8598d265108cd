/- A word is loaded, and stored, just if the heap has it, and it is the word at that number. No condition is added: the bounds are those that the printed statement gives. -/
import Derived.Test.YtnjnfihhhoppmaaHeap4
import Derived.Test.YtnjnfihhhoppmaaFacts
namespace Go.Proofs.Ytnjnfihhhoppmaa.Pure
open Go.RowKit Go.Proofs.Ytnjnfihhhoppmaa.Heap Go.Proofs.YtnjnfihhhoppmaaW.PrintWords Go.Proofs.YtnjnfihhhoppmaaW.PrintLast
set_option linter.unusedVariables false
set_option linter.unusedSimpArgs false

theorem HeapBounds : joinerylaw06_HeapBounds.Pure := by
  intro l0 a1 a2 _ _ _ _ _
  refine ⟨300, ?_⟩
  unfold joinerylaw06_HeapBounds.f
  by_cases h0 : (l0.length : Int) > 100
  · rw [if_pos h0]
    simp [knows_is]
  · rw [if_neg h0]
    simp only [load_is, store_is, Option.bind_some]
    by_cases h : InR l0 a1
    · have h' : (l0.length : Int) ≤ 16 := by omega
      simp only [if_pos h, if_pos h', if_pos (show a1 ≥ 0 from h.2.1), joinerylaw06_HeapBounds.j0, decide_eq_true h.2.2, if_true, if_pos h.2.1, if_pos h.2.2, knows_is 299 (by omega), Option.bind_some]
    · simp only [if_neg h]
      by_cases h1 : (l0.length : Int) ≤ 16
      · by_cases h2 : a1 ≥ 0
        · have h3 : ¬ a1 < (l0.length : Int) := fun h3 => h ⟨by omega, h2, h3⟩
          simp [h1, h2, h3, joinerylaw06_HeapBounds.j0, knows_is]
        · simp [h1, h2, joinerylaw06_HeapBounds.j0, knows_is]
      · simp [h1, joinerylaw06_HeapBounds.j0, knows_is]

end Go.Proofs.Ytnjnfihhhoppmaa.Pure
