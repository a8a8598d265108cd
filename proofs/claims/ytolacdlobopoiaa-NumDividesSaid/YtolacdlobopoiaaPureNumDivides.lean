/- What a division leaves is less than what is divided by, and has the sign of what is divided. No condition is added: the bounds are those that the printed statement gives. -/
import Derived.Test.YtolacdlobopoiaaNum7
import Derived.Test.YtolacdlobopoiaaFactsB
namespace Go.Proofs.Ytolacdlobopoiaa.Pure
open Go.RowKit Go.Proofs.Ytolacdlobopoiaa.Num Go.Proofs.YtolacdlobopoiaaW.PrintWords Go.Proofs.YtolacdlobopoiaaW.PrintLast
set_option linter.unusedVariables false
set_option linter.unusedSimpArgs false

theorem div_facts (a b : Int) (ha : W64 a) (hb : W64 b) (h0 : b ≠ 0) (h1 : a ≠ -9223372036854775808) (h2 : b ≠ -9223372036854775808) :
    wrap64 (a - wrap64 (wrap64 (Int.tdiv a b) * b)) = Int.tmod a b ∧ W64 (Int.tmod a b) ∧ (Int.tmod a b).natAbs < b.natAbs ∧ (0 ≤ a → 0 ≤ Int.tmod a b) ∧ (a ≤ 0 → Int.tmod a b ≤ 0) := by
  have hlt : (Int.tmod a b).natAbs < b.natAbs := by
    rw [Int.natAbs_tmod]
    exact Nat.mod_lt _ (by omega)
  have hw : W64 (Int.tmod a b) := by unfold W64 at hb ⊢; omega
  refine ⟨?_, hw, hlt, fun h => Int.tmod_nonneg _ h, fun h => ?_⟩
  · rw [wrap_mul_left, wrap_sub_right]
    have e : a - Int.tdiv a b * b = Int.tmod a b := by
      have := Int.tmod_add_mul_tdiv a b
      have e2 : Int.tdiv a b * b = b * Int.tdiv a b := Int.mul_comm _ _
      omega
    rw [e]
    exact w64_self hw
  · have := Int.tmod_nonneg (a := -a) b (by omega)
    rw [Int.neg_tmod] at this
    omega
theorem NumDivides : joinerylaw01_NumDivides.Pure := by
  intro a b ha hb
  have wa := w64_of ha
  have wb := w64_of hb
  refine ⟨300, ?_⟩
  unfold joinerylaw01_NumDivides.f
  by_cases h0 : b = 0
  · rw [if_pos h0]
    simp only [joinerylaw01_NumDivides.j0, if_true, knows1_is 299 (by omega), Option.bind_some]
  · rw [if_neg h0]
    by_cases h1 : a = -9223372036854775808
    · rw [if_pos h1]
      simp only [joinerylaw01_NumDivides.j0, if_true, knows1_is 299 (by omega), Option.bind_some]
    · rw [if_neg h1]
      by_cases h2 : b = -9223372036854775808
      · rw [beq_iff_eq.mpr h2]
        simp only [joinerylaw01_NumDivides.j0, if_true, knows1_is 299 (by omega), Option.bind_some]
      · rw [beq_eq_false_iff_ne.mpr h2]
        obtain ⟨e, hw, hlt, hp, hn⟩ := div_facts a b wa wb h0 h1 h2
        unfold W64 at wa wb hw
        have key : ∀ r : Int, r.natAbs < b.natAbs → (0 ≤ a → 0 ≤ r) → (a ≤ 0 → r ≤ 0) → -9223372036854775808 < r → r ≤ 9223372036854775807 →
            (if r < 0 then (if b < 0 then (if wrap64 (-r) < wrap64 (-b) then (if r = 0 then some true else (if ((decide (r < 0)) == (decide (a < 0))) = true then some true else some false)) else some false) else (if wrap64 (-r) < b then (if r = 0 then some true else (if ((decide (r < 0)) == (decide (a < 0))) = true then some true else some false)) else some false))
              else (if b < 0 then (if r < wrap64 (-b) then (if r = 0 then some true else (if ((decide (r < 0)) == (decide (a < 0))) = true then some true else some false)) else some false) else (if r < b then (if r = 0 then some true else (if ((decide (r < 0)) == (decide (a < 0))) = true then some true else some false)) else some false))) = some true := by
          intro r k1 k2 k3 k4 k5
          have hs : r ≠ 0 → ((decide (r < 0)) == (decide (a < 0))) = true := by
            intro hr
            rw [beq_iff_eq, decide_eq_decide]
            omega
          have ht : (if r = 0 then some true else (if ((decide (r < 0)) == (decide (a < 0))) = true then some true else some false)) = some true := by
            by_cases hr : r = 0
            · rw [if_pos hr]
            · rw [if_neg hr, if_pos (hs hr)]
          simp only [ht]
          have eb : b < 0 → wrap64 (-b) = -b := fun _ => by unfold wrap64; omega
          by_cases c1 : r < 0
          · have er : wrap64 (-r) = -r := by unfold wrap64; omega
            rw [if_pos c1, er]
            by_cases c2 : b < 0
            · rw [if_pos c2, eb c2, if_pos (by omega)]
            · rw [if_neg c2, if_pos (by omega)]
          · rw [if_neg c1]
            by_cases c2 : b < 0
            · rw [if_pos c2, eb c2, if_pos (by omega)]
            · rw [if_neg c2, if_pos (by omega)]
        simp only [joinerylaw01_NumDivides.j0, Bool.false_eq_true, if_false, do_div a b h0, do_mul, do_sub, Option.bind_some, e, if_true, knows1_is 299 (by omega)]
        exact key _ hlt hp hn (by omega) hw.2

end Go.Proofs.Ytolacdlobopoiaa.Pure
