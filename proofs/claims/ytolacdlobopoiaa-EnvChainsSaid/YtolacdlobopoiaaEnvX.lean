/- env: EnvX -/
import Derived.Test.YtolacdlobopoiaaNum0
import Derived.Test.YtolacdlobopoiaaEnvW
namespace Go.Proofs.Ytolacdlobopoiaa.Num
open Go.RowKit Go.Proofs.YtolacdlobopoiaaW.PrintWords Go.Proofs.YtolacdlobopoiaaW.PrintLast Go.Proofs.YtolacdlobopoiaaW.PrintMore
attribute [local go_sem] max2_int min2_int max_two min_two max_three min_three max_four min_four   -- for this text's walks alone
set_option linter.unusedVariables false
set_option linter.unusedSimpArgs false

theorem info68 : (Try.prog.info? 68).map (fun i => (i.zero, i.size, i.bytes)) = some (some (.agg #[(.bool false), (.int .i64 0)]), 2, 16) := by kernel_rfl
theorem take_step {α : Type} (L : List α) (i : Nat) (hi : i < L.length) : L.take i ++ [L[i]] = L.take (i + 1) := by
  rw [List.take_succ_eq_append_getElem hi]
set_option maxHeartbeats 1000000 in
set_option maxRecDepth 100000 in
theorem env_row (L : List S68) (hL : L.length = 24) (w : World) : Calls Try.prog 45 #[.agg (wcells L)] w fun e w' => ∃ v, e = .returned v ∧ Kd.R k68 68 w' w.heap.size (fun _ => True) v L ∧ Below w.heap.size w w' := by
  have LT := Aside0.mk hL
  clear hL
  have hu68 := Try.underlying68
  obtain ⟨wb, hwb⟩ : ∃ wb, wb = w.alloc (.cells (wcells L) 69) := ⟨_, rfl⟩
  have WT : Aside0 (IsW wb w.heap.size L) := ⟨by rw [hwb]; exact heap_alloc_last w _⟩
  have WS : Aside0 (wb.heap.size = w.heap.size + 1) := ⟨by rw [hwb]; simp⟩
  have WB : Aside0 (Below w.heap.size w wb) := ⟨by rw [hwb]; exact below_alloc (Below.refl _ _) _⟩
  go_enter Try.func45, Try.ntmps45
  go_upto_region 1 with fail
  rw [← hwb]
  clear hwb
  go_wp2
  go_loopw [3, 4] (fun v3 c wr => ∃ i : Nat, c = .int .i64 i ∧ Aside0 (i ≤ 24 ∧ Kd.R k68 68 wr wb.heap.size (fun _ => True) v3 (L.take i) ∧ Below wb.heap.size wb wr)) (fun _ c _ => 24 - (intOf c).toNat)
  case atStart => exact ⟨0, rfl, ⟨⟨by omega, by simpa using Kd.R_nil k68 68 _ _ _, Below.refl _ _⟩⟩⟩
  case round =>
    obtain ⟨i, rfl, HS⟩ := hrel
    obtain ⟨h24, ho, hb⟩ := HS.out
    by_cases hi : i < 24
    · have hi' : (i : Int) < 24 := by omega
      have hc0 := (WT.out.below hb).cell0 i (by rw [LT.out]; exact hi)
      have hc1 := (WT.out.below hb).cell1 i (by rw [LT.out]; exact hi)
      have htk := take_step L i (by rw [LT.out]; exact hi)
      obtain ⟨s, hs⟩ : ∃ s, s = L[i]'(by rw [LT.out]; exact hi) := ⟨_, rfl⟩
      rw [← hs] at hc0 hc1 htk
      clear hs
      have HTk := Aside0.mk htk
      have HO := Aside0.mk ho
      have HB := Aside0.mk hb
      have hlen : (L.take i).length = i := by simp [LT.out]; omega
      have HLn := Aside0.mk hlen
      clear htk ho hb HS hlen
      go_wp2_with (first
        | ((with_reducible refine gate_builtin (b := .append) (xs := #[.tmp 9, .tmp 13]) rfl ?_); at_builtin; refine Kd.R_append k68 (w0 := wb) wb.heap.size rfl (.tmp 9) (.tmp 13) 72 68 (.agg #[(.bool false), (.int .i64 0)]) 16 rfl Try.underlying72 info68 rfl (by decide) (by omega) u3 (L.take i) s [.bool s.f0, .int .i64 s.f1] (fun _ => True) (fun _ => False) rfl rfl ?aP (fun _ hk => hk.elim) ?aF ?aO ?aB ?aS ?aL ?_; (case aP => exact k68_mkM _ _ _ s); (case aB => exact HB.out); (case aF => exact (fun _ _ => trivial)); (case aO => exact HO.out); (case aS => exact (below_size HB.out)); (case aL => rw [HLn.out]; omega); intro v106 w3 ho hb hg hat; rw [HTk.out] at ho; have HB3 := Aside0.mk hb; have HO3 := Aside0.mk ho; clear ho hb hg hat))
      go_roundw
      case rel => exact ⟨i + 1, by go_num, ⟨⟨by omega, HO3.out, HB3.out⟩⟩⟩
      case measure => simp [intOf]; omega
    · obtain rfl : i = 24 := by omega
      have hall : L.take 24 = L := List.take_of_length_le (by rw [LT.out]; omega)
      rw [hall] at ho
      have HO := Aside0.mk ho
      have HB := Aside0.mk hb
      clear hall ho hb HS
      go_wp2
      go_ret
      exact ⟨_, rfl, Kd.R_lower HO.out (by have := WS.out; omega), below_step WB.out HB.out⟩

end Go.Proofs.Ytolacdlobopoiaa.Num
