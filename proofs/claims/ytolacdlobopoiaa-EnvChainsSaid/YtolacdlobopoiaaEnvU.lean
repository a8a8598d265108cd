/- env: EnvU -/
import Derived.Test.YtolacdlobopoiaaNum0
import Derived.Test.YtolacdlobopoiaaEnvS
namespace Go.Proofs.Ytolacdlobopoiaa.Num
open Go.RowKit Go.Proofs.YtolacdlobopoiaaW.PrintWords Go.Proofs.YtolacdlobopoiaaW.PrintLast Go.Proofs.YtolacdlobopoiaaW.PrintMore
attribute [local go_sem] max2_int min2_int max_two min_two max_three min_three max_four min_four   -- for this text's walks alone
set_option linter.unusedVariables false
set_option linter.unusedSimpArgs false

def mix {α : Type} (X Y : List α) (i : Nat) : List α := X.take i ++ Y.drop i
theorem mix_zero {α : Type} (X Y : List α) : mix X Y 0 = Y := by simp [mix]
theorem mix_all {α : Type} (X Y : List α) (i : Nat) (h1 : X.length = i) (h2 : Y.length = i) : mix X Y i = X := by
  unfold mix
  rw [List.take_of_length_le (by omega), List.drop_of_length_le (by omega), List.append_nil]
theorem mix_len {α : Type} (X Y : List α) (i : Nat) (h : X.length = Y.length) (hi : i ≤ Y.length) : (mix X Y i).length = Y.length := by
  simp [mix]
  omega
theorem mix_set {α : Type} (X Y : List α) (i : Nat) (hX : i < X.length) (hY : i < Y.length) : (mix X Y i).set i (X[i]) = mix X Y (i + 1) := by
  unfold mix
  rw [List.set_append_right _ _ (by simp; omega)]
  have h1 : i - (List.take i X).length = 0 := by simp; omega
  rw [h1, List.drop_eq_getElem_cons hY, List.set_cons_zero, List.take_succ_eq_append_getElem hX, List.append_assoc]
  rfl
def fillS (L : List S68) : Sr → S68
  | .was l => L.getD l.toNat ⟨false, 0⟩
  | .is n => ⟨true, n⟩
  | .no => ⟨false, 0⟩
def fillW (G : List Sr) (L : List S68) : List S68 := G.map (fillS L)
theorem fillW_len (G : List Sr) (L : List S68) : (fillW G L).length = G.length := by simp [fillW]
/-- Four blocks laid one behind the other, and a call behind them: they are as they were. -/
theorem four_after {w w1 : World} {A B C D : Obj} (hb : Below ((((w.alloc A).alloc B).alloc C).alloc D).heap.size ((((w.alloc A).alloc B).alloc C).alloc D) w1) :
    w1.heap[w.heap.size]? = some A ∧ w1.heap[w.heap.size + 1]? = some B ∧ w1.heap[w.heap.size + 2]? = some C ∧ w1.heap[w.heap.size + 3]? = some D ∧ Below w.heap.size w w1 := by
  obtain ⟨h1, h2, h3, h4⟩ := three_after (w := w.alloc A) hb
  have h0 : (w.alloc A).heap.size = w.heap.size + 1 := by simp
  rw [h0] at h1 h2 h3
  refine ⟨?_, h1, h2, h3, below_step (below_alloc (Below.refl _ _) _) h4⟩
  exact (h4.block _ (by omega)).trans (heap_alloc_last w A)
set_option maxHeartbeats 1000000 in
set_option maxRecDepth 100000 in
theorem fill_of (T G : List Sr) (L : List S68) (hT : T.length = 24) (hG : G.length = 24) (hL : L.length = 24) (hok : goodB G = true) (gT : ∀ w, Calls Try.prog 52 #[.agg (tcells T)] w fun e w' => e = .returned (.agg (tcells G)) ∧ Below w.heap.size w w')
    (R : List S68) (hR : R = fillW G L) (w : World) : Calls Try.prog 46 #[.agg (tcells T), .agg (wcells L)] w fun e w' => e = .returned (.agg (wcells R)) ∧ Below w.heap.size w w' := by
  have LT := Aside0.mk hT
  have LG := Aside0.mk hG
  have LL := Aside0.mk hL
  have HO := Aside0.mk hok
  have HG := Aside0.mk gT
  have HR := Aside0.mk hR
  clear hT hG hL hok gT hR
  go_enter Try.func46, Try.ntmps46
  go_wp2_with (first
      | ((with_reducible refine gate_dst (N := 10) rfl ?_); refine wpList_load_row rfl 57 _ rfl w.heap.size rfl 57 (tcells T) (0, 0) _ (four_after (w := w) (Below.refl _ _)).1 Try.underlying57 rfl (tab_size LT.out) ?_)
      | (go_at_call 52; refine (HG.out _).mono ?_; rintro e w1 ⟨rfl, hb⟩; obtain ⟨_, h2, h3, h4, h5⟩ := four_after hb; have KL := Aside0.mk (show IsW w1 (w.heap.size + 1) L from h2); have K0 := Aside0.mk (show IsW w1 (w.heap.size + 2) w0s from h3); have K1 := Aside0.mk (show IsW w1 (w.heap.size + 3) w0s from h4); have HB := Aside0.mk h5; clear h2 h3 h4 h5 hb))
  go_loopw [12] (fun c wr => ∃ i : Nat, c = .int .i64 i ∧ Aside0 (i ≤ 24 ∧ Below w.heap.size w wr ∧ IsW wr (w.heap.size + 1) L ∧ IsW wr (w.heap.size + 2) w0s ∧ IsW wr (w.heap.size + 3) (mix R w0s i))) (fun c _ => 24 - (intOf c).toNat)
  case atStart => exact ⟨0, rfl, ⟨⟨by omega, HB.out, KL.out, K0.out, by rw [mix_zero]; exact K1.out⟩⟩⟩
  case round =>
    obtain ⟨i, rfl, HS⟩ := hrel
    obtain ⟨h24, hb, hl, h0, ht⟩ := HS.out
    have LR : R.length = 24 := by rw [HR.out, fillW_len]; exact LG.out
    by_cases hi : i < 24
    · have hix := run_index_tab G LG.out i (by rw [LG.out]; exact hi)
      have hi' : (i : Int) < 24 := by omega
      have hgs := goodB_at HO.out i (by rw [LG.out]; exact hi)
      have hRi : R[i]'(by rw [LR]; exact hi) = fillS L (G[i]'(by rw [LG.out]; exact hi)) := by simp only [HR.out, fillW, List.getElem_map]
      have hset := mix_set R w0s i (by rw [LR]; exact hi) (by rw [w0s_len]; exact hi)
      rw [hRi] at hset
      have hml := mix_len R w0s i (by rw [LR, w0s_len]) (by rw [w0s_len]; omega)
      rw [w0s_len] at hml
      obtain ⟨s, hs⟩ : ∃ s, s = G[i]'(by rw [LG.out]; exact hi) := ⟨_, rfl⟩
      rw [← hs] at hix hgs hset
      clear hs hRi
      have HSet := Aside0.mk hset
      have HML := Aside0.mk hml
      have HB := Aside0.mk hb
      have HL := Aside0.mk hl
      have H0 := Aside0.mk h0
      have HT := Aside0.mk ht
      have HLR := Aside0.mk LR
      clear hset hml hb hl h0 ht LR HS
      have d0 : ∀ o, (wr.alloc o).cell? ⟨w.heap.size + 3, i * 2, none⟩ = some (.bool ((mix R w0s i)[i]'(by rw [HML.out]; exact hi)).f0) := fun o => (HT.out.below (below_alloc (Below.refl _ _) o)).cell0 i _
      have d1 : ∀ o, (wr.alloc o).cell? ⟨w.heap.size + 3, i * 2 + 1, none⟩ = some (.int .i64 ((mix R w0s i)[i]'(by rw [HML.out]; exact hi)).f1) := fun o => (HT.out.below (below_alloc (Below.refl _ _) o)).cell1 i _
      have f0 : ∀ o, (wr.alloc o).frozen? ⟨w.heap.size + 3, i * 2, none⟩ = false := fun o => (HT.out.below (below_alloc (Below.refl _ _) o)).free _
      have f1 : ∀ o, (wr.alloc o).frozen? ⟨w.heap.size + 3, i * 2 + 1, none⟩ = false := fun o => (HT.out.below (below_alloc (Below.refl _ _) o)).free _
      obtain ⟨u, hu⟩ : ∃ u, u = (mix R w0s i)[i]'(by rw [HML.out]; exact hi) := ⟨_, rfl⟩
      rw [← hu] at d0 d1
      clear hu
      cases s with
      | no => exact absurd hgs (by decide)
      | is m =>
        have t2 := ta_is_was
        have t3 := ta_is
        simp only [Sr.v] at hix
        clear hgs
        go_wp2
        go_roundw
        case rel =>
          refine ⟨i + 1, by go_num, ⟨⟨by omega, ((below_alloc HB.out _).setCell (show w.heap.size ≤ w.heap.size + 1 + 1 + 1 by omega) _).setCell (show w.heap.size ≤ w.heap.size + 1 + 1 + 1 by omega) _, ?_, ?_, ?_⟩⟩⟩
          · exact ((HL.out.below (below_alloc (Below.refl _ _) _)).far (by simp) _).far (by simp) _
          · exact ((H0.out.below (below_alloc (Below.refl _ _) _)).far (by simp) _).far (by simp) _
          · rw [← HSet.out]; exact (HT.out.below (below_alloc (Below.refl _ _) _)).set i ⟨true, m⟩ (by rw [HML.out]; exact hi)
        case measure => simp [intOf]; omega
      | was l =>
        have hl : 0 ≤ l ∧ l ≤ 23 := of_decide_eq_true hgs
        have hlt : l.toNat < L.length := by rw [LL.out]; omega
        have t1 := ta_was
        have q1 : l < 24 := Int.lt_add_one_of_le hl.2
        have q3 := hl.1
        have e0 : ∀ o, (wr.alloc o).cell? ⟨w.heap.size + 1, l.toNat * 2, none⟩ = some (.bool (L[l.toNat]).f0) := fun o => (HL.out.below (below_alloc (Below.refl _ _) o)).cell0 _ _
        have e1 : ∀ o, (wr.alloc o).cell? ⟨w.heap.size + 1, l.toNat * 2 + 1, none⟩ = some (.int .i64 (L[l.toNat]).f1) := fun o => (HL.out.below (below_alloc (Below.refl _ _) o)).cell1 _ _
        have hv : fillS L (.was l) = L[l.toNat] := by simp [fillS, List.getD_eq_getElem?_getD, hlt]
        obtain ⟨v, hv2⟩ : ∃ v, v = L[l.toNat] := ⟨_, rfl⟩
        rw [← hv2] at e0 e1 hv
        have HV := Aside0.mk hv
        clear hv hv2 hgs hl hlt
        simp only [Sr.v] at hix
        go_wp2
        go_roundw
        case rel =>
          refine ⟨i + 1, by go_num, ⟨⟨by omega, ((below_alloc HB.out _).setCell (show w.heap.size ≤ w.heap.size + 1 + 1 + 1 by omega) _).setCell (show w.heap.size ≤ w.heap.size + 1 + 1 + 1 by omega) _, ?_, ?_, ?_⟩⟩⟩
          · exact ((HL.out.below (below_alloc (Below.refl _ _) _)).far (by simp) _).far (by simp) _
          · exact ((H0.out.below (below_alloc (Below.refl _ _) _)).far (by simp) _).far (by simp) _
          · rw [← HSet.out, HV.out]; exact (HT.out.below (below_alloc (Below.refl _ _) _)).set i v (by rw [HML.out]; exact hi)
        case measure => simp [intOf]; omega
    · obtain rfl : i = 24 := by omega
      rw [mix_all R w0s 24 LR w0s_len] at ht
      have HLR := Aside0.mk LR
      have HB := Aside0.mk hb
      have H0 := Aside0.mk h0
      have HT := Aside0.mk ht
      clear hb hl h0 ht HS LR
      go_wp2_with (first
        | ((with_reducible refine gate_dst (N := 35) rfl ?_); refine wpList_load_row rfl 69 _ rfl (w.heap.size + 3) rfl 69 (wcells R) (0, 0) _ HT.out Try.underlying69 rfl (wt_size HLR.out) ?_)
        | ((with_reducible refine gate_store (t := 69) (p := 4) rfl ?_); refine wpList_store_row rfl 69 _ _ rfl (w.heap.size + 2) (wcells R) rfl rfl 69 (wcells w0s) H0.out (wt_size HLR.out) (by rw [wcells_size, wcells_size, w0s_len, HLR.out]) (wcells_one _) ?_))
      exact bodyPost_ret (v := .agg (wcells R)) (results_cell_row rfl _ _ (w.heap.size + 2) 69 (wcells R) (0, 0) _ rfl H0.out.laid Try.underlying69 rfl (wt_size HLR.out)) rfl ⟨rfl, below_setRow HB.out (by omega) _⟩
def fillT (T : List Sr) (L : List S68) : List S68 := fillW (goodT T) L
theorem fillT_len (T : List Sr) (L : List S68) (hT : T.length = 24) : (fillT T L).length = 24 := by unfold fillT; rw [fillW_len]; exact goodT_len hT
theorem env_Fill (T : List Sr) (L : List S68) (hT : T.length = 24) (hL : L.length = 24) (w : World) : Calls Try.prog 46 #[.agg (tcells T), .agg (wcells L)] w fun e w' => e = .returned (.agg (wcells (fillT T L))) ∧ Below w.heap.size w w' :=
  fill_of T (goodT T) L hT (goodT_len hT) hL (goodT_good T) (env_good T hT) _ rfl w

end Go.Proofs.Ytolacdlobopoiaa.Num
