/- To store again there is as to store that alone; two stores at two places can be done in either order. No condition is added: the bounds are those that the printed statement gives. -/
import Derived.Test.YtnjnfihhhoppmaaHeap3
import Derived.Test.YtnjnfihhhoppmaaFacts
namespace Go.Proofs.Ytnjnfihhhoppmaa.Pure
open Go.RowKit Go.Proofs.Ytnjnfihhhoppmaa.Heap Go.Proofs.YtnjnfihhhoppmaaW.PrintWords Go.Proofs.YtnjnfihhhoppmaaW.PrintLast
set_option linter.unusedVariables false
set_option linter.unusedSimpArgs false

theorem orders_core (l0 : List Int) (a1 a2 a3 a4 : Int) (h0 : l0.length ≤ 100) (h1 : InR l0 a1) (h3 : InR l0 a3) (k : Nat) (hk : 300 ≤ k) :
    joinerylaw06_HeapOrders.j0 (k + 1) l0 a1 a2 a3 a4 (l0.set a1.toNat a2) (l0.set a3.toNat a4) false = some true := by
  simp only [joinerylaw06_HeapOrders.j0, Bool.false_eq_true, if_false, store_is, Option.bind_some, InR, List.length_set, knows_is k (by omega)]
  simp only [InR] at h1 h3
  simp only [if_pos h1, if_pos h3, List.length_set, List.set_set]
  rw [same_is _ _ (by simpa using h0) k (by simp; omega), same_is _ _ (by simpa using h0) k (by simp; omega)]
  by_cases e : a1 = a3
  · simp [e]
  · have hc : ((l0.set a1.toNat a2).set a3.toNat a4) = ((l0.set a3.toNat a4).set a1.toNat a2) := List.set_comm _ _ (by omega)
    simp [e, hc]

theorem HeapOrders : joinerylaw06_HeapOrders.Pure := by
  intro l0 a1 a2 a3 a4 _ _ _ _ _ _ _
  refine ⟨301, ?_⟩
  unfold joinerylaw06_HeapOrders.f
  by_cases h0 : (l0.length : Int) > 100
  · rw [if_pos h0]
    simp [knows_is]
  · rw [if_neg h0]
    simp only [store_is, Option.bind_some]
    by_cases h1 : InR l0 a1
    · by_cases h3 : InR l0 a3
      · simp only [if_pos h1, if_pos h3, if_true]
        exact orders_core l0 a1 a2 a3 a4 (by omega) h1 h3 300 (by omega)
      · simp only [if_pos h1, if_neg h3, if_true]
        simp [joinerylaw06_HeapOrders.j0, knows_is]
    · simp only [if_neg h1]
      simp [joinerylaw06_HeapOrders.j0, knows_is]

end Go.Proofs.Ytnjnfihhhoppmaa.Pure
