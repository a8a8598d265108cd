/- A source's text is the one that the reference says. No condition is added: the bounds are those that the printed statement gives. -/
import Derived.Test.YtolacdlobopoiaaEnvT
namespace Go.Proofs.Ytolacdlobopoiaa.Pure
open Go.RowKit Go.Proofs.Ytolacdlobopoiaa.Num Go.Proofs.YtolacdlobopoiaaW.PrintWords Go.Proofs.YtolacdlobopoiaaW.PrintLast
set_option linter.unusedVariables false
set_option linter.unusedSimpArgs false

theorem EnvTexts : joinerylaw05_EnvTexts.Pure := by
  intro a0 hw
  have hn := w64_of hw
  refine ⟨300, ?_⟩
  have hj (s : ByteArray) {c : Int} (hs : loc_Text.f a0 = some (s, c)) : joinerylaw05_EnvTexts.j1 299 a0 s a0 a0 = some true := by
    show joinerylaw05_EnvTexts.j1 (298 + 1) a0 s a0 a0 = some true
    simp only [joinerylaw05_EnvTexts.j1, env_Was_Text.f, env_Is_Text.f, hs, Option.bind_some, if_true, num_text_ge a0 hn 298 (by omega), ref_text_is a0 hn 298 (by omega), joinerylaw05_knows.f]
  by_cases h0 : 0 ≤ a0
  · unfold joinerylaw05_EnvTexts.f
    rw [if_pos h0]
    show joinerylaw05_EnvTexts.j0 (299 + 1) a0 _ _ a0 a0 = some true
    by_cases h1 : a0 < 24
    · simp only [joinerylaw05_EnvTexts.j0, h1, decide_true, if_true, ref_text_in a0 h0 (by omega) 299 (by omega), Option.bind_some]
      exact hj _ (loc_text_in a0 h0 (by omega))
    · simp only [joinerylaw05_EnvTexts.j0, h1, decide_false, Bool.false_eq_true, if_false]
      exact hj _ (loc_text_out a0 (by omega))
  · unfold joinerylaw05_EnvTexts.f
    rw [if_neg h0]
    show joinerylaw05_EnvTexts.j0 (299 + 1) a0 _ _ a0 a0 = some true
    simp only [joinerylaw05_EnvTexts.j0, Bool.false_eq_true, if_false]
    exact hj _ (loc_text_out a0 (by omega))

end Go.Proofs.Ytolacdlobopoiaa.Pure
