/- Unlike places have unlike texts; and each is either a register or a slot. No condition is added: the bounds are those that the printed statement gives. -/
import Derived.Test.YtolacdlobopoiaaNum3
import Derived.Test.YtolacdlobopoiaaFactsL
namespace Go.Proofs.Ytolacdlobopoiaa.Pure
open Go.RowKit Go.Proofs.Ytolacdlobopoiaa.Num Go.Proofs.YtolacdlobopoiaaW.PrintWords Go.Proofs.YtolacdlobopoiaaW.PrintLast
set_option linter.unusedVariables false
set_option linter.unusedSimpArgs false

theorem pt_size (l : Int) (h0 : 0 ≤ l) (h1 : l ≤ 23) : 0 < (pt l).size := by
  refine all24 (fun l => 0 < (pt l).size) ?_ l h0 h1
  decide +kernel
theorem pt_head (l : Int) (h0 : 0 ≤ l) (h1 : l ≤ 23) : ((bt (pt l) 0) == 114) = decide (0 ≤ l ∧ l ≤ 7) ∧ ((bt (pt l) 0) == 115) = !decide (0 ≤ l ∧ l ≤ 7) := by
  refine all24 (fun l => ((bt (pt l) 0) == 114) = decide (0 ≤ l ∧ l ≤ 7) ∧ ((bt (pt l) 0) == 115) = !decide (0 ≤ l ∧ l ≤ 7)) ?_ l h0 h1
  decide +kernel
theorem LocApart : joinerylaw02_LocApart.Pure := by
  intro a0 a1 _ _
  refine ⟨50, ?_⟩
  unfold joinerylaw02_LocApart.f
  by_cases h0 : 0 ≤ a0 ∧ a0 ≤ 23
  · rw [loc_text_in a0 h0.1 h0.2]
    by_cases h1 : 0 ≤ a1 ∧ a1 ≤ 23
    · rw [loc_text_in a1 h1.1 h1.2]
      have hs := pt_size a0 h0.1 h0.2
      obtain ⟨hr, hsl⟩ := pt_head a0 h0.1 h0.2
      have he : ((pt a0).toList == (pt a1).toList) = (a0 == a1) := by
        rw [Bool.eq_iff_iff, beq_iff_eq, beq_iff_eq, toList_iff]
        exact ⟨fun h => pt_inj h0 h1 h, fun h => by rw [h]⟩
      simp only [Option.bind_some, if_true, bne_self_eq_false, joinerylaw02_LocApart.j0, Bool.false_eq_true, if_false, he, beq_self_eq_true, reg_is, hr, hsl, knows_is]
      rw [if_pos (by omega), if_pos (by omega)]
    · rw [loc_text_out a1 h1]
      have e : ((1 : Int) != 0) = true := by decide
      simp only [Option.bind_some, if_true, e, joinerylaw02_LocApart.j0, right_is, decide_eq_true h0, decide_eq_false h1, Bool.false_eq_true, if_false, knows_is]
  · rw [loc_text_out a0 h0]
    have hb : ∃ b : ByteArray × Int, loc_Text.f a1 = some b := by
      by_cases h1 : 0 ≤ a1 ∧ a1 ≤ 23
      · exact ⟨_, loc_text_in a1 h1.1 h1.2⟩
      · exact ⟨_, loc_text_out a1 h1⟩
    obtain ⟨b, hb⟩ := hb
    rw [hb]
    simp only [Option.bind_some]
    rw [if_neg (by decide)]
    simp only [joinerylaw02_LocApart.j0, if_true, right_is, decide_eq_false h0, Option.bind_some, Bool.false_eq_true, if_false, knows_is]

end Go.Proofs.Ytolacdlobopoiaa.Pure
