/- To store what is there changes nothing. No condition is added: the bounds are those that the printed statement gives. -/
import Derived.Test.YtnjnfihhhoppmaaHeap3
import Derived.Test.YtnjnfihhhoppmaaFacts
namespace Go.Proofs.Ytnjnfihhhoppmaa.Pure
open Go.RowKit Go.Proofs.Ytnjnfihhhoppmaa.Heap Go.Proofs.YtnjnfihhhoppmaaW.PrintWords Go.Proofs.YtnjnfihhhoppmaaW.PrintLast
set_option linter.unusedVariables false
set_option linter.unusedSimpArgs false

theorem set_rd (l : List Int) (a : Int) (ha : 0 ≤ a) (hl : a < (l.length : Int)) : l.set a.toNat (rd l a) = l := by
  have h : a.toNat < l.length := by omega
  unfold rd
  rw [List.getD_eq_getElem?_getD, List.getElem?_eq_getElem h]
  exact List.set_getElem_self h

theorem HeapSelf : joinerylaw06_HeapSelf.Pure := by
  intro l0 a1 _ _ _ _
  refine ⟨300, ?_⟩
  unfold joinerylaw06_HeapSelf.f
  by_cases h0 : (l0.length : Int) > 100
  · rw [if_pos h0]
    simp [knows_is]
  · rw [if_neg h0]
    simp only [load_is, store_is, Option.bind_some, knows_is 300 (by omega)]
    by_cases h : InR l0 a1
    · simp only [if_pos h, if_true]
      rw [set_rd l0 a1 h.2.1 h.2.2, same_is l0 l0 (by omega) 300 (by omega)]
      simp
    · simp [if_neg h]

end Go.Proofs.Ytnjnfihhhoppmaa.Pure
