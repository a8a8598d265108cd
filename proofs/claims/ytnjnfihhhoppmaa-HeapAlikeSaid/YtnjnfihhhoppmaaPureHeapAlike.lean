/- Likeness of heaps is reflexive, symmetric and transitive. No condition is added: the bounds are those that the printed statement gives. -/
import Derived.Test.YtnjnfihhhoppmaaHeap3
import Derived.Test.YtnjnfihhhoppmaaFacts
namespace Go.Proofs.Ytnjnfihhhoppmaa.Pure
open Go.RowKit Go.Proofs.Ytnjnfihhhoppmaa.Heap Go.Proofs.YtnjnfihhhoppmaaW.PrintWords Go.Proofs.YtnjnfihhhoppmaaW.PrintLast
set_option linter.unusedVariables false
set_option linter.unusedSimpArgs false

theorem alike_core (l0 l1 l2 : List Int) (h0 : l0.length ≤ 100) (h1 : l1.length ≤ 100) (k : Nat) (hk : 300 ≤ k) : joinerylaw06_HeapAlike.j0 (k + 2) l0 l1 l2 false = some true := by
  simp only [joinerylaw06_HeapAlike.j0, joinerylaw06_HeapAlike.j1, Bool.false_eq_true, if_false, same_is l0 l0 h0 (k + 1) (by omega), same_is l0 l1 h0 (k + 1) (by omega), same_is l1 l0 h1 (k + 1) (by omega), same_is l0 l1 h0 k (by omega), same_is l1 l2 h1 k (by omega), same_is l0 l2 h0 k (by omega), Option.bind_some, knows_is k (by omega)]
  by_cases e : l0 = l1
  · subst e
    by_cases e2 : l0 = l2
    · simp [e2]
    · simp [e2]
  · have e' : ¬ l1 = l0 := fun h => e h.symm
    simp [e, e']

theorem HeapAlike : joinerylaw06_HeapAlike.Pure := by
  intro l0 l1 l2 _ _ _ _ _ _ _ _ _
  refine ⟨302, ?_⟩
  unfold joinerylaw06_HeapAlike.f
  by_cases h0 : (l0.length : Int) > 100
  · rw [if_pos h0]
    simp [joinerylaw06_HeapAlike.j0, knows_is]
  · rw [if_neg h0]
    by_cases h1 : (l1.length : Int) > 100
    · rw [if_pos h1]
      simp [joinerylaw06_HeapAlike.j0, knows_is]
    · rw [if_neg h1]
      by_cases h2 : (l2.length : Int) > 100
      · rw [decide_eq_true h2]
        simp [joinerylaw06_HeapAlike.j0, knows_is]
      · rw [decide_eq_false h2]
        exact alike_core l0 l1 l2 (by omega) (by omega) 300 (by omega)

end Go.Proofs.Ytnjnfihhhoppmaa.Pure
