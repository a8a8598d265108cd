/- Each text that is read is a register's, of one digit, or a slot's, of one or two. No condition is added: the bounds are those that the printed statement gives. -/
import Derived.Test.YtolacdlobopoiaaNum4
import Derived.Test.YtolacdlobopoiaaFactsL
namespace Go.Proofs.Ytolacdlobopoiaa.Pure
open Go.RowKit Go.Proofs.Ytolacdlobopoiaa.Num Go.Proofs.YtolacdlobopoiaaW.PrintWords Go.Proofs.YtolacdlobopoiaaW.PrintLast
set_option linter.unusedVariables false
set_option linter.unusedSimpArgs false

theorem few_at (l : Int) (h0 : 0 ≤ l) (h1 : l ≤ 23) : joinerylaw02_LocFew.f (pt l) = some true := by
  refine all24 (fun l => joinerylaw02_LocFew.f (pt l) = some true) ?_ l h0 h1
  decide +kernel
theorem LocFew : joinerylaw02_LocFew.Pure := by
  intro a0 _
  cases hp : loc_Parse.place a0 with
  | some l =>
    obtain ⟨h0, h1, h2⟩ := place_some hp
    rw [h2]
    exact few_at l h0 h1
  | none =>
    unfold joinerylaw02_LocFew.f
    by_cases h : (a0.size : Int) > 1000
    · rw [if_pos h, knows_is]
      rfl
    · rw [if_neg h]
      unfold loc_Parse.f
      rw [hp]
      simp only [Option.bind_some, knows_is]
      rfl

end Go.Proofs.Ytolacdlobopoiaa.Pure
