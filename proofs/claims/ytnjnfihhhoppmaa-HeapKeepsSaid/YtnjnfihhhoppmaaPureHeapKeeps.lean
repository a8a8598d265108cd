/- What was stored is loaded, and all other words stay. No condition is added: the bounds are those that the printed statement gives. -/
import Derived.Test.YtnjnfihhhoppmaaHeap2
import Derived.Test.YtnjnfihhhoppmaaFacts
namespace Go.Proofs.Ytnjnfihhhoppmaa.Pure
open Go.RowKit Go.Proofs.Ytnjnfihhhoppmaa.Heap Go.Proofs.YtnjnfihhhoppmaaW.PrintWords Go.Proofs.YtnjnfihhhoppmaaW.PrintLast
set_option linter.unusedVariables false
set_option linter.unusedSimpArgs false

theorem rd_set (l : List Int) (a b v : Int) (ha : 0 ≤ a) (hb : 0 ≤ b) (hl : a < (l.length : Int)) : rd (l.set a.toNat v) b = if b = a then v else rd l b := by
  unfold rd
  simp only [List.getD_eq_getElem?_getD, List.getElem?_set]
  by_cases e : b = a
  · subst e
    rw [if_pos rfl, if_pos rfl, if_pos (by omega)]
    rfl
  · rw [if_neg e, if_neg (by omega)]

theorem HeapKeeps : joinerylaw06_HeapKeeps.Pure := by
  intro l0 a1 a2 a3 _ _ _ _ _ _
  refine ⟨300, ?_⟩
  unfold joinerylaw06_HeapKeeps.f
  by_cases h0 : (l0.length : Int) > 100
  · rw [if_pos h0]
    simp [knows_is]
  · rw [if_neg h0]
    simp only [load_is, store_is, Option.bind_some, knows_is 300 (by omega)]
    by_cases h : InR l0 a1
    · have hr := rd_set l0 a1 a3 a2
      have hr1 := rd_set l0 a1 a1 a2 h.2.1 h.2.1 h.2.2
      simp only [if_pos h, List.length_set, InR] at *
      rw [hr1]
      simp only [if_true]
      by_cases e : a3 = a1
      · subst e
        rw [if_pos h, if_pos h]
        simp
      · by_cases h3 : l0.length ≤ 16 ∧ 0 ≤ a3 ∧ a3 < (l0.length : Int)
        · have hr2 : rd (l0.set a1.toNat a2) a3 = rd l0 a3 := by rw [hr h.2.1 h3.2.1 h.2.2, if_neg e]
          rw [if_pos h3, if_pos h3, hr2]
          simp
        · rw [if_neg h3, if_neg h3]
          simp
    · simp [if_neg h]

end Go.Proofs.Ytnjnfihhhoppmaa.Pure
