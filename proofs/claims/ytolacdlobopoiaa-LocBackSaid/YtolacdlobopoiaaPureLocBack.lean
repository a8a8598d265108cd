/- A place's text is read as it, and what was read has just that text. No condition is added: the bounds are those that the printed statement gives. -/
import Derived.Test.YtolacdlobopoiaaNum2
import Derived.Test.YtolacdlobopoiaaFactsL
namespace Go.Proofs.Ytolacdlobopoiaa.Pure
open Go.RowKit Go.Proofs.Ytolacdlobopoiaa.Num Go.Proofs.YtolacdlobopoiaaW.PrintWords Go.Proofs.YtolacdlobopoiaaW.PrintLast
set_option linter.unusedVariables false
set_option linter.unusedSimpArgs false

theorem back_j0 (s : ByteArray) (k : Nat) : joinerylaw02_LocBack.j0 (k + 1) s = some true := by
  simp only [joinerylaw02_LocBack.j0, loc_Parse.f, Option.bind_some, knows_is]
  cases hp : loc_Parse.place s with
  | none => rfl
  | some l =>
    obtain ⟨h0, h1, h2⟩ := place_some hp
    simp only [if_true, loc_text_in l h0 h1, Option.bind_some]
    rw [if_pos ((toList_iff _ _).mpr h2.symm)]
theorem LocBack : joinerylaw02_LocBack.Pure := by
  intro a0 a1 _ _
  refine ⟨50, ?_⟩
  unfold joinerylaw02_LocBack.f
  by_cases h : (a1.size : Int) > 1000
  · rw [if_pos h, knows_is]
    rfl
  · rw [if_neg h]
    by_cases hi : 0 ≤ a0 ∧ a0 ≤ 23
    · rw [loc_text_in a0 hi.1 hi.2]
      simp only [Option.bind_some, if_true, loc_Parse.f, place_pt a0 hi.1 hi.2, back_j0]
    · rw [loc_text_out a0 hi]
      simp only [Option.bind_some, back_j0]
      rw [if_neg (by decide)]

end Go.Proofs.Ytolacdlobopoiaa.Pure
