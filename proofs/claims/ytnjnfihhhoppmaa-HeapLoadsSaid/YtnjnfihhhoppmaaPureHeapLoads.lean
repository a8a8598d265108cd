/- What is loaded, and stored, and which are heaps and alike, is what the reference says. No condition is added: the bounds are those that the printed statement gives. -/
import Derived.Test.YtnjnfihhhoppmaaHeap2
import Derived.Test.YtnjnfihhhoppmaaFacts
namespace Go.Proofs.Ytnjnfihhhoppmaa.Pure
open Go.RowKit Go.Proofs.Ytnjnfihhhoppmaa.Heap Go.Proofs.YtnjnfihhhoppmaaW.PrintWords Go.Proofs.YtnjnfihhhoppmaaW.PrintLast
set_option linter.unusedVariables false
set_option linter.unusedSimpArgs false

theorem loads_core (l0 l1 : List Int) (a2 a3 : Int) (h0 : l0.length ≤ 100) (h1 : l1.length ≤ 100) (k : Nat) (hk : 300 ≤ k) : joinerylaw06_HeapLoads.j0 (k + 1) l0 l1 a2 a3 false = some true := by
  have hs : (if InR l0 a2 then (l0.set a2.toNat a3, (0 : Int)) else ([], 4)).1.length ≤ 100 := by split <;> simp [h0]
  simp only [joinerylaw06_HeapLoads.j0, Bool.false_eq_true, if_false, load_is, ref_load_is l0 a2 k (by omega), store_is, ref_store_is l0 a2 a3 k (by omega), right_is, Option.bind_some, if_true,
    ref_same_is _ _ hs hs k (by omega), same_is l0 l1 h0 k (by omega), ref_same_is l0 l1 h0 h1 k (by omega), knows_is k (by omega)]
  have hd : (decide (l0.length ≤ 16) == decide ((l0.length : Int) ≤ 16)) = true := by
    rw [beq_iff_eq, decide_eq_decide]
    omega
  simp [hd]

theorem HeapLoads : joinerylaw06_HeapLoads.Pure := by
  intro l0 l1 a2 a3 _ _ _ _ _ _ _ _
  refine ⟨301, ?_⟩
  unfold joinerylaw06_HeapLoads.f
  by_cases h0 : (l0.length : Int) > 100
  · rw [if_pos h0]
    simp [joinerylaw06_HeapLoads.j0, knows_is]
  · rw [if_neg h0]
    by_cases h1 : (l1.length : Int) > 100
    · rw [decide_eq_true h1]
      simp [joinerylaw06_HeapLoads.j0, knows_is]
    · rw [decide_eq_false h1]
      exact loads_core l0 l1 a2 a3 (by omega) (by omega) 300 (by omega)

end Go.Proofs.Ytnjnfihhhoppmaa.Pure
