/- env: EnvW -/
import Derived.Test.YtolacdlobopoiaaNum0
import Derived.Test.YtolacdlobopoiaaEnvV
namespace Go.Proofs.Ytolacdlobopoiaa.Num
open Go.RowKit Go.Proofs.YtolacdlobopoiaaW.PrintWords Go.Proofs.YtolacdlobopoiaaW.PrintLast Go.Proofs.YtolacdlobopoiaaW.PrintMore
attribute [local go_sem] max2_int min2_int max_two min_two max_three min_three max_four min_four   -- for this text's walks alone
set_option linter.unusedVariables false
set_option linter.unusedSimpArgs false

def asS (T : List Sr) : List S90 := T.map srcS
theorem asS_take (T : List Sr) (i : Nat) (hi : i < T.length) : (asS T).take i ++ [srcS T[i]] = (asS T).take (i + 1) := by
  unfold asS
  rw [← List.map_take, ← List.map_take, List.take_succ_eq_append_getElem hi, List.map_append]
  rfl
set_option maxHeartbeats 1000000 in
set_option maxRecDepth 100000 in
theorem env_As (T : List Sr) (hT : T.length = 24) (w : World) : Calls Try.prog 48 #[.agg (tcells T)] w fun e w' => ∃ v, e = .returned v ∧ Kd.R k90 90 w' w.heap.size (fun _ => True) v (asS T) ∧ Below w.heap.size w w' := by
  have LT := Aside0.mk hT
  clear hT
  have hu90 := Try.underlying90
  obtain ⟨wb, hwb⟩ : ∃ wb, wb = w.alloc (.cells (tcells T) 57) := ⟨_, rfl⟩
  have WT : Aside0 (IsTab wb w.heap.size T) := ⟨by rw [hwb]; exact heap_alloc_last w _⟩
  have WS : Aside0 (wb.heap.size = w.heap.size + 1) := ⟨by rw [hwb]; simp⟩
  have WB : Aside0 (Below w.heap.size w wb) := ⟨by rw [hwb]; exact below_alloc (Below.refl _ _) _⟩
  go_enter Try.func48, Try.ntmps48
  go_upto_region 1 with fail
  rw [← hwb]
  clear hwb
  go_wp2
  go_loopw [3, 4] (fun v3 c wr => ∃ i : Nat, c = .int .i64 i ∧ Aside0 (i ≤ 24 ∧ Kd.R k90 90 wr wb.heap.size (fun _ => True) v3 ((asS T).take i) ∧ Below wb.heap.size wb wr)) (fun _ c _ => 24 - (intOf c).toNat)
  case atStart => exact ⟨0, rfl, ⟨⟨by omega, by simpa using Kd.R_nil k90 90 _ _ _, Below.refl _ _⟩⟩⟩
  case round =>
    obtain ⟨i, rfl, HS⟩ := hrel
    obtain ⟨h24, ho, hb⟩ := HS.out
    by_cases hi : i < 24
    · have hi' : (i : Int) < 24 := by omega
      have hc := (WT.out.below hb).cell i (by rw [LT.out]; exact hi)
      have htk := asS_take T i (by rw [LT.out]; exact hi)
      obtain ⟨s, hs⟩ : ∃ s, s = T[i]'(by rw [LT.out]; exact hi) := ⟨_, rfl⟩
      rw [← hs] at hc htk
      clear hs
      have HTk := Aside0.mk htk
      have HO := Aside0.mk ho
      have HB := Aside0.mk hb
      have hlen : ((asS T).take i).length = i := by simp [asS, LT.out]; omega
      have HLn := Aside0.mk hlen
      clear htk ho hb HS hlen
      go_wp2_with (first
        | (go_at_call 55; refine (env_AsSource s _).mono ?_; rintro e w2 ⟨rfl, hb⟩; have HB2 := Aside0.mk (below_step HB.out hb); have HO2 := Aside0.mk (Kd.R_below HO.out hb); clear hb)
        | ((with_reducible refine gate_builtin (b := .append) (xs := #[.tmp 9, .tmp 14]) rfl ?_); at_builtin; refine Kd.R_append k90 (w0 := wb) wb.heap.size rfl (.tmp 9) (.tmp 14) 76 90 (.agg #[(.int .i64 0), (.int .i64 0)]) 16 rfl Try.underlying76 info90 rfl (by decide) (by omega) u3 ((asS T).take i) (srcS s) [.int .i64 (srcS s).f0, .int .i64 (srcS s).f1] (fun _ => True) (fun _ => False) rfl rfl ?aP (fun _ hk => hk.elim) ?aF ?aO ?aB ?aS ?aL ?_; (case aP => exact k90_mkM _ _ _ (srcS s)); (case aB => exact HB2.out); (case aF => exact (fun _ _ => trivial)); (case aO => exact HO2.out); (case aS => exact (below_size HB2.out)); (case aL => rw [HLn.out]; omega); intro v106 w3 ho hb hg hat; rw [HTk.out] at ho; have HB3 := Aside0.mk hb; have HO3 := Aside0.mk ho; clear ho hb hg hat))
      go_roundw
      case rel => exact ⟨i + 1, by go_num, ⟨⟨by omega, HO3.out, HB3.out⟩⟩⟩
      case measure => simp [intOf]; omega
    · obtain rfl : i = 24 := by omega
      have hall : (asS T).take 24 = asS T := List.take_of_length_le (by simp [asS, LT.out])
      rw [hall] at ho
      have HO := Aside0.mk ho
      have HB := Aside0.mk hb
      clear hall ho hb HS
      go_wp2
      go_ret
      exact ⟨_, rfl, Kd.R_lower HO.out (by have := WS.out; omega), below_step WB.out HB.out⟩

end Go.Proofs.Ytolacdlobopoiaa.Num
