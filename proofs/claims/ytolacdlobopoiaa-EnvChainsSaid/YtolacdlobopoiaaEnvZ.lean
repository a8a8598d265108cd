/- env: EnvZ -/
import Derived.Test.YtolacdlobopoiaaNum0
import Derived.Test.YtolacdlobopoiaaEnvY
namespace Go.Proofs.Ytolacdlobopoiaa.Num
open Go.RowKit Go.Proofs.YtolacdlobopoiaaW.PrintWords Go.Proofs.YtolacdlobopoiaaW.PrintLast Go.Proofs.YtolacdlobopoiaaW.PrintMore
attribute [local go_sem] max2_int min2_int max_two min_two max_three min_three max_four min_four   -- for this text's walks alone
set_option linter.unusedVariables false
set_option linter.unusedSimpArgs false

theorem at90 (T : List Sr) {w : World} {A : Option Addr} {n : Nat} (h : Kd.C k90 w A n (asS T)) (hn : n = T.length) (i : Nat) (hi : i < T.length) : ∃ ad, A = some ad ∧ w.cell? (ad.add (i * 2)) = some (.int .i64 (srcS T[i]).f0) ∧ w.cell? ⟨(ad.add (i * 2)).block, (ad.add (i * 2)).off + 1, none⟩ = some (.int .i64 (srcS T[i]).f1) := by
  have := at_T90 h (i : Int) (by omega) (by omega)
  rw [rd90 T i hi] at this
  simpa using this
theorem at68 (L : List S68) {w : World} {A : Option Addr} {n : Nat} (h : Kd.C k68 w A n L) (hn : n = L.length) (l : Int) (h0 : 0 ≤ l) (hi : l < L.length) : ∃ ad, A = some ad ∧ w.cell? (ad.add (l.toNat * 2)) = some (.bool (L.getD l.toNat ⟨false, 0⟩).f0) ∧ w.cell? ⟨(ad.add (l.toNat * 2)).block, (ad.add (l.toNat * 2)).off + 1, none⟩ = some (.int .i64 (L.getD l.toNat ⟨false, 0⟩).f1) := by
  have := at_T68 h l h0 (by omega)
  simpa [rd_T68, z68] using this
set_option maxHeartbeats 1000000 in
set_option maxRecDepth 100000 in
theorem ref_fill_of (T G : List Sr) (L R : List S68) (hT : T.length = 24) (hG : G.length = 24) (hL : L.length = 24) (hok : goodB G = true) (hR : R = fillW G L) (A : Option Addr) (c : Nat) (A1 : Option Addr) (c1 : Nat) (w : World)
    (gG : Calls Try.prog 54 #[.slice A 24 c] w fun e w' => (∃ A' c', e = .returned (.slice A' 24 c') ∧ 24 ≤ c' ∧ Kd.C k90 w' A' 24 (asS G)) ∧ Below w.heap.size w w')
    (hr1 : Kd.C k68 w A1 24 L) : Calls Try.prog 47 #[.slice A 24 c, .slice A1 24 c1] w fun e w' => ∃ v, e = .returned v ∧ Kd.R k68 68 w' w.heap.size (fun _ => True) v R ∧ Below w.heap.size w w' := by
  have LG := Aside0.mk hG
  have LL := Aside0.mk hL
  have HOk := Aside0.mk hok
  have HRe := Aside0.mk hR
  have HG := Aside0.mk gG
  have HR1 := Aside0.mk hr1
  have LR : Aside0 (R.length = 24) := ⟨by rw [hR, fillW_len, hG]⟩
  clear hG hL hok hR gG hr1 hT
  have hu68 := Try.underlying68
  have hu90 := Try.underlying90
  go_enter Try.func47, Try.ntmps47
  go_wp2_with (first
      | (go_at_call 54; refine HG.out.mono ?_; rintro e w1 ⟨⟨A2, c2, rfl, hc2, hC⟩, hb⟩; have HB1 := Aside0.mk hb; have HC := Aside0.mk hC; clear hb hC))
  go_loopw [5, 6] (fun v5 c wr => ∃ i : Nat, c = .int .i64 i ∧ Aside0 (i ≤ 24 ∧ Kd.R k68 68 wr w1.heap.size (fun _ => True) v5 (R.take i) ∧ Below w1.heap.size w1 wr)) (fun _ c _ => 24 - (intOf c).toNat)
  case atStart => exact ⟨0, rfl, ⟨⟨by omega, by simpa using Kd.R_nil k68 68 _ _ _, Below.refl _ _⟩⟩⟩
  case round =>
    obtain ⟨i, rfl, HS⟩ := hrel
    obtain ⟨h24, ho, hb⟩ := HS.out
    by_cases hi : i < 24
    · have hi' : (i : Int) < 24 := by omega
      obtain ⟨ad, rfl, k0, k1⟩ := at90 G (Kd.C_below HC.out hb) LG.out.symm i (by rw [LG.out]; exact hi)
      have hgs := goodB_at HOk.out i (by rw [LG.out]; exact hi)
      have htk := take_step R i (by rw [LR.out]; exact hi)
      have hRi : R[i]'(by rw [LR.out]; exact hi) = fillS L (G[i]'(by rw [LG.out]; exact hi)) := by simp only [HRe.out, fillW, List.getElem_map]
      rw [hRi] at htk
      obtain ⟨s, hs⟩ : ∃ s, s = G[i]'(by rw [LG.out]; exact hi) := ⟨_, rfl⟩
      rw [← hs] at k0 k1 hgs htk
      clear hs hRi
      have HTk := Aside0.mk htk
      have HO := Aside0.mk ho
      have HB := Aside0.mk hb
      have hlen : (R.take i).length = i := by simp [LR.out]; omega
      have HLn := Aside0.mk hlen
      clear htk ho hb HS hlen
      cases s with
      | no => exact absurd hgs (by decide)
      | is m =>
        simp only [srcS] at k0 k1
        clear hgs
        go_wp2_with (first
          | ((with_reducible refine gate_builtin (b := .append) (xs := #[.tmp 30, .tmp 37]) rfl ?_); at_builtin; refine Kd.R_append k68 (w0 := w1) w1.heap.size rfl (.tmp 30) (.tmp 37) 72 68 (.agg #[(.bool false), (.int .i64 0)]) 16 rfl Try.underlying72 info68 rfl (by decide) (by omega) u5 (R.take i) (⟨true, m⟩ : S68) [.bool true, .int .i64 m] (fun _ => True) (fun _ => False) rfl rfl ?aP (fun _ hk => hk.elim) ?aF ?aO ?aB ?aS ?aL ?_; (case aP => exact k68_mkM _ _ _ (⟨true, m⟩ : S68)); (case aB => exact HB.out); (case aF => exact (fun _ _ => trivial)); (case aO => exact HO.out); (case aS => exact (below_size HB.out)); (case aL => rw [HLn.out]; omega); intro v106 w3 ho hb hg hat; have ho2 := ho; rw [show (⟨true, m⟩ : S68) = fillS L (.is m) from rfl, HTk.out] at ho2; have HB3 := Aside0.mk hb; have HO3 := Aside0.mk ho2; clear ho ho2 hb hg hat))
        go_roundw
        case rel => exact ⟨i + 1, by go_num, ⟨⟨by omega, HO3.out, HB3.out⟩⟩⟩
        case measure => simp [intOf]; omega
      | was l =>
        have hl : 0 ≤ l ∧ l ≤ 23 := of_decide_eq_true hgs
        obtain ⟨ad1, rfl, e0, e1⟩ := at68 L (Kd.C_below (Kd.C_below HR1.out HB1.out) HB.out) LL.out.symm l hl.1 (by rw [LL.out]; omega)
        have q1 : l < 24 := Int.lt_add_one_of_le hl.2
        have q3 := hl.1
        have hv : fillS L (.was l) = L.getD l.toNat ⟨false, 0⟩ := rfl
        obtain ⟨v, hv2⟩ : ∃ v, v = L.getD l.toNat ⟨false, 0⟩ := ⟨_, rfl⟩
        rw [← hv2] at e0 e1 hv
        have HV := Aside0.mk hv
        simp only [srcS] at k0 k1
        clear hv hv2 hgs hl
        go_wp2_with (first
          | ((with_reducible refine gate_builtin (b := .append) (xs := #[.tmp 19, .tmp 28]) rfl ?_); at_builtin; refine Kd.R_append k68 (w0 := w1) w1.heap.size rfl (.tmp 19) (.tmp 28) 72 68 (.agg #[(.bool false), (.int .i64 0)]) 16 rfl Try.underlying72 info68 rfl (by decide) (by omega) u5 (R.take i) v [.bool v.f0, .int .i64 v.f1] (fun _ => True) (fun _ => False) rfl rfl ?aP (fun _ hk => hk.elim) ?aF ?aO ?aB ?aS ?aL ?_; (case aP => exact k68_mkM _ _ _ v); (case aB => exact HB.out); (case aF => exact (fun _ _ => trivial)); (case aO => exact HO.out); (case aS => exact (below_size HB.out)); (case aL => rw [HLn.out]; omega); intro v106 w3 ho hb hg hat; have ho2 := ho; rw [← HV.out, HTk.out] at ho2; have HB3 := Aside0.mk hb; have HO3 := Aside0.mk ho2; clear ho ho2 hb hg hat))
        go_roundw
        case rel => exact ⟨i + 1, by go_num, ⟨⟨by omega, HO3.out, HB3.out⟩⟩⟩
        case measure => simp [intOf]; omega
    · obtain rfl : i = 24 := by omega
      have hall : R.take 24 = R := List.take_of_length_le (by rw [LR.out]; omega)
      rw [hall] at ho
      have HO := Aside0.mk ho
      have HB := Aside0.mk hb
      clear hall ho hb HS
      go_wp2
      go_ret
      exact ⟨_, rfl, Kd.R_lower HO.out HB1.out.size, below_step HB1.out HB.out⟩
theorem ref_Fill (T : List Sr) (hT : T.length = 24) (L : List S68) (hL : L.length = 24) (A : Option Addr) (c : Nat) (A1 : Option Addr) (c1 : Nat) (w : World) (hr : Kd.C k90 w A 24 (asS T)) (hc : 24 ≤ c) (hr1 : Kd.C k68 w A1 24 L) :
    Calls Try.prog 47 #[.slice A 24 c, .slice A1 24 c1] w fun e w' => ∃ v, e = .returned v ∧ Kd.R k68 68 w' w.heap.size (fun _ => True) v (fillT T L) ∧ Below w.heap.size w w' := by
  have hl : (asS T).length = 24 := by simp [asS, hT]
  have hg := ref_good T hT A c w (by rw [hl]; exact hr) (by rw [hl]; exact hc)
  rw [hl] at hg
  exact ref_fill_of T (goodT T) L (fillT T L) hT (goodT_len hT) hL (goodT_good T) rfl A c A1 c1 w hg hr1
theorem same_l0 (X : List S68) (hX : X.length = 24) : ∀ m i : Nat, i + m = 24 → joineryref05_SameWords.l0 (m + 1) X X (i : Int) = some true
  | 0, i, h => by
    unfold joineryref05_SameWords.l0
    rw [hX, if_neg (by omega)]
  | m + 1, i, h => by
    have ih := same_l0 X hX m (i + 1) (by omega)
    have hw : wrap64 ((i : Int) + 1) = ((i + 1 : Nat) : Int) := by unfold wrap64; omega
    unfold joineryref05_SameWords.l0
    rw [hX, if_pos (by omega), if_pos (by omega), if_pos (by omega), hw, ih]
    simp
theorem same_f (X : List S68) (hX : X.length = 24) : joineryref05_SameWords.f 25 X X = some true := by
  unfold joineryref05_SameWords.f
  rw [if_pos rfl]
  exact same_l0 X hX 24 0 rfl

end Go.Proofs.Ytolacdlobopoiaa.Num
