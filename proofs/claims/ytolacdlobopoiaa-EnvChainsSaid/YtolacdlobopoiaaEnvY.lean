/- env: EnvY -/
import Derived.Test.YtolacdlobopoiaaNum0
import Derived.Test.YtolacdlobopoiaaEnvX
namespace Go.Proofs.Ytolacdlobopoiaa.Num
open Go.RowKit Go.Proofs.YtolacdlobopoiaaW.PrintWords Go.Proofs.YtolacdlobopoiaaW.PrintLast Go.Proofs.YtolacdlobopoiaaW.PrintMore
attribute [local go_sem] max2_int min2_int max_two min_two max_three min_three max_four min_four   -- for this text's walks alone
set_option linter.unusedVariables false
set_option linter.unusedSimpArgs false

theorem rd90 (T : List Sr) (i : Nat) (hi : i < T.length) : rd_T90 (asS T) (i : Int) = srcS T[i] := by
  unfold rd_T90 asS
  simp [List.getD_eq_getElem?_getD, hi]
theorem good_l0 (T : List Sr) (hT : T.length = 24) : ∀ m i : Nat, i + m = 24 → joineryref05_Good.l0 (m + 1) (asS T) (i : Int) = some ((T.drop i).all Sr.ok)
  | 0, i, h => by
    have hl : (asS T).length = 24 := by simp [asS, hT]
    unfold joineryref05_Good.l0
    rw [hl, if_neg (by omega), List.drop_of_length_le (by omega)]
    rfl
  | m + 1, i, h => by
    have hl : (asS T).length = 24 := by simp [asS, hT]
    have hi : i < T.length := by omega
    have ih := good_l0 T hT m (i + 1) (by omega)
    have hw : wrap64 ((i : Int) + 1) = ((i + 1 : Nat) : Int) := by unfold wrap64; omega
    unfold joineryref05_Good.l0
    rw [hl, if_pos (by omega), if_pos (by omega), rd90 T i hi, hw, ih, List.drop_eq_getElem_cons hi, List.all_cons]
    cases hs : T[i] with
    | was l =>
      by_cases h1 : l < 0
      · have e : inR l = false := decide_eq_false (by omega)
        simp [srcS, Sr.ok, h1, e]
      · by_cases h2 : l > 23
        · have e : inR l = false := decide_eq_false (by omega)
          simp [srcS, Sr.ok, h1, h2, e]
        · have e : inR l = true := decide_eq_true (by omega)
          simp [srcS, Sr.ok, h1, h2, e]
    | is n => simp [srcS, Sr.ok]
    | no => simp [srcS, Sr.ok]
theorem good_f (T : List Sr) (hT : T.length = 24) : joineryref05_Good.f 25 (asS T) = some (goodB T) := by
  have := good_l0 T hT 24 0 rfl
  simpa [joineryref05_Good.f, goodB] using this
theorem new_f : joineryref05_New.f 25 = some (asS first) := by kernel_rfl

set_option maxHeartbeats 1000000 in
set_option maxRecDepth 100000 in
theorem ref_good (T : List Sr) (hT : T.length = 24) (A : Option Addr) (c : Nat) (w : World) (hr : Kd.C k90 w A (asS T).length (asS T)) (hc : (asS T).length ≤ c) :
    Calls Try.prog 54 #[.slice A (asS T).length c] w fun e w' => (∃ A' c', e = .returned (.slice A' 24 c') ∧ 24 ≤ c' ∧ Kd.C k90 w' A' 24 (asS (goodT T))) ∧ Below w.heap.size w w' := by
  have hl : (asS T).length = 24 := by simp [asS, hT]
  have hG := joineryref05_Good.calls 25 A c (asS T) (goodB T) w hr hc (good_f T hT)
  have hg : goodB T = true → goodT T = T := goodT_of
  have hn : goodB T = false → goodT T = first := goodT_not
  rw [hl] at hG hr hc ⊢
  cases hb : goodB T with
  | true =>
    rw [hb] at hG
    rw [hg hb]
    have HG := Aside0.mk hG
    have HR := Aside0.mk hr
    clear hG hr hg hn hb hl
    go_enter Try.func54, Try.ntmps54
    go_wp2_with (first | (go_at_call 67; refine HG.out.mono ?_; rintro e w' ⟨rfl, ⟨nd, rfl⟩⟩))
    go_ret
    exact ⟨⟨A, c, rfl, hc, Kd.C_drewN HR.out _⟩, pw_below_drewN (Below.refl _ _) _⟩
  | false =>
    rw [hb] at hG
    rw [hn hb]
    have HG := Aside0.mk hG
    clear hG hr hg hn hb hl
    go_enter Try.func54, Try.ntmps54
    go_wp2_with (first
      | (go_at_call 67; refine HG.out.mono ?_; rintro e w' ⟨rfl, ⟨nd, rfl⟩⟩)
      | (go_at_call 68; refine (joineryref05_New.calls 25 (asS first) _ new_f).mono ?_; rintro e w1 ⟨v, rfl, ho, hb⟩; have HB := Aside0.mk (below_step (pw_below_drewN (Below.refl _ _) _) hb); obtain ⟨A2, c2, rfl, hc2, hC⟩ := Kd.R_reads ho; have HC := Aside0.mk hC; have HC2 := Aside0.mk hc2; clear ho hb hC hc2))
    go_ret
    exact ⟨⟨A2, c2, rfl, HC2.out, HC.out⟩, HB.out⟩

end Go.Proofs.Ytolacdlobopoiaa.Num
