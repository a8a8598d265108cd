/- env: the walk of EnvTwice -/
import Derived.Test.YtolacdlobopoiaaNum0
import Derived.Test.YtolacdlobopoiaaEnvI
namespace Go.Proofs.Ytolacdlobopoiaa.Num
open Go.RowKit Go.Proofs.YtolacdlobopoiaaW.PrintWords Go.Proofs.YtolacdlobopoiaaW.PrintLast Go.Proofs.YtolacdlobopoiaaW.PrintMore
attribute [local go_sem] max2_int min2_int max_two min_two max_three min_three max_four min_four   -- for this text's walks alone
set_option linter.unusedVariables false
set_option linter.unusedSimpArgs false

set_option maxHeartbeats 1000000 in
set_option maxRecDepth 100000 in
theorem twice_of (A0 : Option Addr) (c0 : Nat) (l0 : List Int) (A1 : Option Addr) (c1 : Nat) (l1 : List Int) (d a n : Int) (T O S1 M1 C1 : List Sr) (lT : T.length = 24) (lS : S1.length = 24) (lM : M1.length = 24) (lC : C1.length = 24) (nT : NoNo T) (nM : NoNo M1) (nC : NoNo C1)
    (hT : ∀ w, Calls Try.prog 39 #[.agg (tcells first), .agg (tcells O)] w fun e w' => e = .returned (.agg (tcells T)) ∧ Below w.heap.size w w')
    (w : World)
    (hO : ∀ w1, Below w.heap.size w w1 → Calls Try.prog 41 #[.slice A0 l0.length c0, .slice A1 l1.length c1] w1 fun e w' => e = .returned (.agg (tcells O)) ∧ Below w1.heap.size w1 w')
    (hS : ∀ w, Calls Try.prog 42 #[.agg (tcells T), .agg #[.int .i64 3, .int .i64 d, .int .i64 a, .int .i64 0, .int .i64 0, .int .i64 0]] w fun e w' => e = .returned (.agg (tcells S1)) ∧ Below w.heap.size w w')
    (hS2 : ∀ w, Calls Try.prog 42 #[.agg (tcells S1), .agg #[.int .i64 3, .int .i64 d, .int .i64 a, .int .i64 0, .int .i64 0, .int .i64 0]] w fun e w' => e = .returned (.agg (tcells T)) ∧ Below w.heap.size w w')
    (hM : ∀ w, Calls Try.prog 42 #[.agg (tcells T), .agg #[.int .i64 2, .int .i64 d, .int .i64 a, .int .i64 0, .int .i64 0, .int .i64 0]] w fun e w' => e = .returned (.agg (tcells M1)) ∧ Below w.heap.size w w')
    (hM2 : ∀ w, Calls Try.prog 42 #[.agg (tcells M1), .agg #[.int .i64 2, .int .i64 d, .int .i64 a, .int .i64 0, .int .i64 0, .int .i64 0]] w fun e w' => e = .returned (.agg (tcells M1)) ∧ Below w.heap.size w w')
    (hC : ∀ w, Calls Try.prog 42 #[.agg (tcells T), .agg #[.int .i64 1, .int .i64 d, .int .i64 0, .int .i64 0, .int .i64 n, .int .i64 0]] w fun e w' => e = .returned (.agg (tcells C1)) ∧ Below w.heap.size w w')
    (hC2 : ∀ w, Calls Try.prog 42 #[.agg (tcells C1), .agg #[.int .i64 1, .int .i64 d, .int .i64 0, .int .i64 0, .int .i64 n, .int .i64 0]] w fun e w' => e = .returned (.agg (tcells C1)) ∧ Below w.heap.size w w')
    : Calls Try.prog 16 #[.slice A0 l0.length c0, .slice A1 l1.length c1, .int .i64 d, .int .i64 a, .int .i64 n] w fun e w' => e = .returned (.bool true) ∧ Below w.heap.size w w' := by
  have HT := Aside0.mk hT
  have HO := Aside0.mk hO
  have HS := Aside0.mk hS
  have HS2 := Aside0.mk hS2
  have HM := Aside0.mk hM
  have HM2 := Aside0.mk hM2
  have HC := Aside0.mk hC
  have HC2 := Aside0.mk hC2
  have LT := Aside0.mk (tab_size lT)
  have NT : Aside0 ((tcells noes).size = (tcells T).size) := ⟨by rw [tcells_size, tcells_size, lT]; rfl⟩
  have QT := Aside0.mk lT
  have QS := Aside0.mk lS
  have QM := Aside0.mk lM
  have QC := Aside0.mk lC
  have PT := Aside0.mk nT
  have PM := Aside0.mk nM
  have PC := Aside0.mk nC
  clear hT hO hS hS2 hM hM2 hC hC2 lT lS lM lC nT nM nC
  go_enter Try.func16, Try.ntmps16
  go_upto_region 5 with (first
      | (go_at_call 40; refine (env_New _).mono ?_; rintro e w1 ⟨rfl, hb⟩; have HB1 := Aside0.mk hb; clear hb)
      | (go_at_call 41; refine (HO.out _ HB1.out).mono ?_; rintro e w2 ⟨rfl, hb⟩; have HB2 := Aside0.mk (below_step HB1.out hb); clear hb)
      | (go_at_call 39; refine (HT.out _).mono ?_; rintro e w3 ⟨rfl, hb⟩; have HB3 := Aside0.mk (below_step HB2.out hb); clear hb)
      | ((with_reducible refine gate_store (t := 57) (p := 11) rfl ?_); refine wpList_store_row rfl 57 _ _ rfl w3.heap.size (tcells T) rfl rfl 57 (tcells noes) (heap_alloc_last w3 _) LT.out NT.out (tcells_one T) ?_; have KT := Aside0.mk (show IsTab _ w3.heap.size T from IsTab.laid (T := noes) (heap_alloc_last w3 _)); have KL := Aside0.mk (below_setRow (below_alloc HB3.out (.cells (tcells noes) 57 (0, 0))) HB3.out.size (tcells T))))
  refine region_det' [(29, .agg (tcells T)), (30, .agg #[.int .i64 3, .int .i64 d, .int .i64 a, .int .i64 0, .int .i64 0, .int .i64 0]), (31, .agg (tcells S1)), (32, .agg #[.int .i64 3, .int .i64 d, .int .i64 a, .int .i64 0, .int .i64 0, .int .i64 0]), (33, .agg (tcells T)), (34, .agg (tcells T)), (35, .bool true), (36, .bool true), (37, .agg (tcells T)), (38, .agg #[.int .i64 2, .int .i64 d, .int .i64 a, .int .i64 0, .int .i64 0, .int .i64 0]), (39, .agg (tcells M1)), (40, .agg #[.int .i64 2, .int .i64 d, .int .i64 a, .int .i64 0, .int .i64 0, .int .i64 0]), (41, .agg (tcells M1)), (42, .agg (tcells T)), (43, .agg #[.int .i64 2, .int .i64 d, .int .i64 a, .int .i64 0, .int .i64 0, .int .i64 0]), (44, .agg (tcells M1)), (45, .bool true), (46, .bool true), (47, .bool true), (48, .agg (tcells T)), (49, .agg #[.int .i64 1, .int .i64 d, .int .i64 0, .int .i64 0, .int .i64 n, .int .i64 0]), (50, .agg (tcells C1)), (51, .agg #[.int .i64 1, .int .i64 d, .int .i64 0, .int .i64 0, .int .i64 n, .int .i64 0]), (52, .agg (tcells C1)), (53, .agg (tcells T)), (54, .agg #[.int .i64 1, .int .i64 d, .int .i64 0, .int .i64 0, .int .i64 n, .int .i64 0]), (55, .agg (tcells C1)), (56, .bool true), (57, .bool true), (58, .bool true), (59, .bool true), (60, .bool true), (10, .bool true)] ⟨#[.slice A0 l0.length c0, .slice A1 l1.length c1, .int .i64 d, .int .i64 a, .int .i64 n, undef, undef, undef, undef, undef, .bool true, .pointer (some ⟨w3.heap.size, 0, none⟩), .pointer (some ⟨w3.heap.size + 1, 0, none⟩), .pointer (some ⟨w3.heap.size + 1 + 1, 0, none⟩), .pointer (some ⟨w3.heap.size + 1 + 1 + 1, 0, none⟩), .agg (tcells first), .slice A0 l0.length c0, .slice A1 l1.length c1, .agg (tcells O), .agg (tcells T), .int .i64 d, .int .i64 a, .agg #[.int .i64 3, .int .i64 d, .int .i64 a, .int .i64 0, .int .i64 0, .int .i64 0], .int .i64 d, .int .i64 a, .agg #[.int .i64 2, .int .i64 d, .int .i64 a, .int .i64 0, .int .i64 0, .int .i64 0], .int .i64 d, .int .i64 n, .agg #[.int .i64 1, .int .i64 d, .int .i64 0, .int .i64 0, .int .i64 n, .int .i64 0], .agg (tcells T), .agg #[.int .i64 3, .int .i64 d, .int .i64 a, .int .i64 0, .int .i64 0, .int .i64 0], .agg (tcells S1), .agg #[.int .i64 3, .int .i64 d, .int .i64 a, .int .i64 0, .int .i64 0, .int .i64 0], .agg (tcells T), .agg (tcells T), .bool true, .bool true, .agg (tcells T), .agg #[.int .i64 2, .int .i64 d, .int .i64 a, .int .i64 0, .int .i64 0, .int .i64 0], .agg (tcells M1), .agg #[.int .i64 2, .int .i64 d, .int .i64 a, .int .i64 0, .int .i64 0, .int .i64 0], .agg (tcells M1), .agg (tcells T), .agg #[.int .i64 2, .int .i64 d, .int .i64 a, .int .i64 0, .int .i64 0, .int .i64 0], .agg (tcells M1), .bool true, .bool true, .bool true, .agg (tcells T), .agg #[.int .i64 1, .int .i64 d, .int .i64 0, .int .i64 0, .int .i64 n, .int .i64 0], .agg (tcells C1), .agg #[.int .i64 1, .int .i64 d, .int .i64 0, .int .i64 0, .int .i64 n, .int .i64 0], .agg (tcells C1), .agg (tcells T), .agg #[.int .i64 1, .int .i64 d, .int .i64 0, .int .i64 0, .int .i64 n, .int .i64 0], .agg (tcells C1), .bool true, .bool true, .bool true, .bool true, .bool true], []⟩ (fun _ => TwSt T d a n w3.heap.size w) (by kernel_rfl) (by kernel_rfl) (by kernel_rfl) (by simp only [putAll, Act.put, List.setIfInBounds_toArray, List.set_cons_succ, List.set_cons_zero]) ?_ ?_ ?_
  · intro i o ho L W hc hr hs
    obtain ⟨h1, h2, h3, h4, h5⟩ := hs
    rcases i with _ | _ | _ | _ | _ | _ | _ | _ | _ | _ | _ | _ | _ | _ | _ | _ | _ | _ | _ | _ | _ | _ | _ | _ | _ | _ | _ | _ | _ | _ | _ | _ | _ | i
    · obtain rfl := Option.some.inj ho
      exact step_load_row rfl 57 _ rfl w3.heap.size rfl 57 (tcells T) (0, 0) _ h2 Try.underlying57 rfl LT.out rfl ⟨h1, h2, h3, h4, h5⟩
    · obtain rfl := Option.some.inj ho
      exact step_load_row rfl 62 _ rfl (w3.heap.size + 1) rfl 62 #[.int .i64 3, .int .i64 d, .int .i64 a, .int .i64 0, .int .i64 0, .int .i64 0] (0, 0) _ h3 Try.underlying62 rfl info62 rfl ⟨h1, h2, h3, h4, h5⟩
    · obtain rfl := Option.some.inj ho
      exact step_call rfl Try.func42 (by kernel_rfl) rfl #[.agg (tcells T), .agg #[.int .i64 3, .int .i64 d, .int .i64 a, .int .i64 0, .int .i64 0, .int .i64 0]] rfl rfl ((HS.out W).mono fun e w' h => ⟨_, h.1, rfl, TwSt.below ⟨h1, h2, h3, h4, h5⟩ h.2⟩)
    · obtain rfl := Option.some.inj ho
      exact step_load_row rfl 62 _ rfl (w3.heap.size + 1) rfl 62 #[.int .i64 3, .int .i64 d, .int .i64 a, .int .i64 0, .int .i64 0, .int .i64 0] (0, 0) _ h3 Try.underlying62 rfl info62 rfl ⟨h1, h2, h3, h4, h5⟩
    · obtain rfl := Option.some.inj ho
      exact step_call rfl Try.func42 (by kernel_rfl) rfl #[.agg (tcells S1), .agg #[.int .i64 3, .int .i64 d, .int .i64 a, .int .i64 0, .int .i64 0, .int .i64 0]] rfl rfl ((HS2.out W).mono fun e w' h => ⟨_, h.1, rfl, TwSt.below ⟨h1, h2, h3, h4, h5⟩ h.2⟩)
    · obtain rfl := Option.some.inj ho
      exact step_load_row rfl 57 _ rfl w3.heap.size rfl 57 (tcells T) (0, 0) _ h2 Try.underlying57 rfl LT.out rfl ⟨h1, h2, h3, h4, h5⟩
    · obtain rfl := Option.some.inj ho
      exact step_run (v := .bool true) (w' := W) rfl (eq_step rfl rfl rfl QT.out PT.out W) rfl ⟨h1, h2, h3, h4, h5⟩
    · obtain rfl := Option.some.inj ho
      exact step_run (v := .bool true) (w' := W) rfl rfl rfl ⟨h1, h2, h3, h4, h5⟩
    · obtain rfl := Option.some.inj ho
      exact step_load_row rfl 57 _ rfl w3.heap.size rfl 57 (tcells T) (0, 0) _ h2 Try.underlying57 rfl LT.out rfl ⟨h1, h2, h3, h4, h5⟩
    · obtain rfl := Option.some.inj ho
      exact step_load_row rfl 62 _ rfl (w3.heap.size + 1 + 1) rfl 62 #[.int .i64 2, .int .i64 d, .int .i64 a, .int .i64 0, .int .i64 0, .int .i64 0] (0, 0) _ h4 Try.underlying62 rfl info62 rfl ⟨h1, h2, h3, h4, h5⟩
    · obtain rfl := Option.some.inj ho
      exact step_call rfl Try.func42 (by kernel_rfl) rfl #[.agg (tcells T), .agg #[.int .i64 2, .int .i64 d, .int .i64 a, .int .i64 0, .int .i64 0, .int .i64 0]] rfl rfl ((HM.out W).mono fun e w' h => ⟨_, h.1, rfl, TwSt.below ⟨h1, h2, h3, h4, h5⟩ h.2⟩)
    · obtain rfl := Option.some.inj ho
      exact step_load_row rfl 62 _ rfl (w3.heap.size + 1 + 1) rfl 62 #[.int .i64 2, .int .i64 d, .int .i64 a, .int .i64 0, .int .i64 0, .int .i64 0] (0, 0) _ h4 Try.underlying62 rfl info62 rfl ⟨h1, h2, h3, h4, h5⟩
    · obtain rfl := Option.some.inj ho
      exact step_call rfl Try.func42 (by kernel_rfl) rfl #[.agg (tcells M1), .agg #[.int .i64 2, .int .i64 d, .int .i64 a, .int .i64 0, .int .i64 0, .int .i64 0]] rfl rfl ((HM2.out W).mono fun e w' h => ⟨_, h.1, rfl, TwSt.below ⟨h1, h2, h3, h4, h5⟩ h.2⟩)
    · obtain rfl := Option.some.inj ho
      exact step_load_row rfl 57 _ rfl w3.heap.size rfl 57 (tcells T) (0, 0) _ h2 Try.underlying57 rfl LT.out rfl ⟨h1, h2, h3, h4, h5⟩
    · obtain rfl := Option.some.inj ho
      exact step_load_row rfl 62 _ rfl (w3.heap.size + 1 + 1) rfl 62 #[.int .i64 2, .int .i64 d, .int .i64 a, .int .i64 0, .int .i64 0, .int .i64 0] (0, 0) _ h4 Try.underlying62 rfl info62 rfl ⟨h1, h2, h3, h4, h5⟩
    · obtain rfl := Option.some.inj ho
      exact step_call rfl Try.func42 (by kernel_rfl) rfl #[.agg (tcells T), .agg #[.int .i64 2, .int .i64 d, .int .i64 a, .int .i64 0, .int .i64 0, .int .i64 0]] rfl rfl ((HM.out W).mono fun e w' h => ⟨_, h.1, rfl, TwSt.below ⟨h1, h2, h3, h4, h5⟩ h.2⟩)
    · obtain rfl := Option.some.inj ho
      exact step_run (v := .bool true) (w' := W) rfl (eq_step rfl rfl rfl QM.out PM.out W) rfl ⟨h1, h2, h3, h4, h5⟩
    · obtain rfl := Option.some.inj ho
      exact step_run (v := .bool true) (w' := W) rfl rfl rfl ⟨h1, h2, h3, h4, h5⟩
    · obtain rfl := Option.some.inj ho
      exact step_run (v := .bool true) (w' := W) rfl rfl rfl ⟨h1, h2, h3, h4, h5⟩
    · obtain rfl := Option.some.inj ho
      exact step_load_row rfl 57 _ rfl w3.heap.size rfl 57 (tcells T) (0, 0) _ h2 Try.underlying57 rfl LT.out rfl ⟨h1, h2, h3, h4, h5⟩
    · obtain rfl := Option.some.inj ho
      exact step_load_row rfl 62 _ rfl (w3.heap.size + 1 + 1 + 1) rfl 62 #[.int .i64 1, .int .i64 d, .int .i64 0, .int .i64 0, .int .i64 n, .int .i64 0] (0, 0) _ h5 Try.underlying62 rfl info62 rfl ⟨h1, h2, h3, h4, h5⟩
    · obtain rfl := Option.some.inj ho
      exact step_call rfl Try.func42 (by kernel_rfl) rfl #[.agg (tcells T), .agg #[.int .i64 1, .int .i64 d, .int .i64 0, .int .i64 0, .int .i64 n, .int .i64 0]] rfl rfl ((HC.out W).mono fun e w' h => ⟨_, h.1, rfl, TwSt.below ⟨h1, h2, h3, h4, h5⟩ h.2⟩)
    · obtain rfl := Option.some.inj ho
      exact step_load_row rfl 62 _ rfl (w3.heap.size + 1 + 1 + 1) rfl 62 #[.int .i64 1, .int .i64 d, .int .i64 0, .int .i64 0, .int .i64 n, .int .i64 0] (0, 0) _ h5 Try.underlying62 rfl info62 rfl ⟨h1, h2, h3, h4, h5⟩
    · obtain rfl := Option.some.inj ho
      exact step_call rfl Try.func42 (by kernel_rfl) rfl #[.agg (tcells C1), .agg #[.int .i64 1, .int .i64 d, .int .i64 0, .int .i64 0, .int .i64 n, .int .i64 0]] rfl rfl ((HC2.out W).mono fun e w' h => ⟨_, h.1, rfl, TwSt.below ⟨h1, h2, h3, h4, h5⟩ h.2⟩)
    · obtain rfl := Option.some.inj ho
      exact step_load_row rfl 57 _ rfl w3.heap.size rfl 57 (tcells T) (0, 0) _ h2 Try.underlying57 rfl LT.out rfl ⟨h1, h2, h3, h4, h5⟩
    · obtain rfl := Option.some.inj ho
      exact step_load_row rfl 62 _ rfl (w3.heap.size + 1 + 1 + 1) rfl 62 #[.int .i64 1, .int .i64 d, .int .i64 0, .int .i64 0, .int .i64 n, .int .i64 0] (0, 0) _ h5 Try.underlying62 rfl info62 rfl ⟨h1, h2, h3, h4, h5⟩
    · obtain rfl := Option.some.inj ho
      exact step_call rfl Try.func42 (by kernel_rfl) rfl #[.agg (tcells T), .agg #[.int .i64 1, .int .i64 d, .int .i64 0, .int .i64 0, .int .i64 n, .int .i64 0]] rfl rfl ((HC.out W).mono fun e w' h => ⟨_, h.1, rfl, TwSt.below ⟨h1, h2, h3, h4, h5⟩ h.2⟩)
    · obtain rfl := Option.some.inj ho
      exact step_run (v := .bool true) (w' := W) rfl (eq_step rfl rfl rfl QC.out PC.out W) rfl ⟨h1, h2, h3, h4, h5⟩
    · obtain rfl := Option.some.inj ho
      exact step_run (v := .bool true) (w' := W) rfl rfl rfl ⟨h1, h2, h3, h4, h5⟩
    · obtain rfl := Option.some.inj ho
      exact step_run (v := .bool true) (w' := W) rfl rfl rfl ⟨h1, h2, h3, h4, h5⟩
    · obtain rfl := Option.some.inj ho
      exact step_call rfl Try.func38 (by kernel_rfl) rfl #[] rfl rfl ((env_knows W).mono fun e w' h => ⟨_, h.1, rfl, TwSt.below ⟨h1, h2, h3, h4, h5⟩ h.2⟩)
    · obtain rfl := Option.some.inj ho
      exact step_run (v := .bool true) (w' := W) rfl rfl rfl ⟨h1, h2, h3, h4, h5⟩
    · obtain rfl := Option.some.inj ho
      exact step_run (v := .bool true) (w' := W) rfl rfl rfl ⟨h1, h2, h3, h4, h5⟩
    · exact absurd (Array.getElem?_eq_some_iff.1 ho).1 (by simp)
  · exact TwSt.start (by simp) KL.out KT.out
  · intro L W hall hs
    obtain ⟨h1, h2, h3, h4, h5⟩ := hs
    have H1 := Aside0.mk h1
    clear h1 h2 h3 h4 h5 hall
    go_wp2
    go_ret
    exact ⟨rfl, H1.out⟩
theorem env_Twice (A0 : Option Addr) (c0 : Nat) (l0 : List Int) (A1 : Option Addr) (c1 : Nat) (l1 : List Int) (d a n : Int) (w : World) (hr0 : Kd.C (Kd.int .u8) w A0 l0.length l0) (hc0 : l0.length ≤ c0) (hr1 : Kd.C (Kd.int .i64) w A1 l1.length l1) (hc1 : l1.length ≤ c1) :
    Calls Try.prog 16 #[.slice A0 l0.length c0, .slice A1 l1.length c1, .int .i64 d, .int .i64 a, .int .i64 n] w fun e w' => e = .returned (.bool true) ∧ Below w.heap.size w w' := by
  have lO : (ofT l0 l1).length = 24 := ofTo_len _ _ _
  obtain ⟨T, hT⟩ : ∃ T, T = thenT first (ofT l0 l1) := ⟨_, rfl⟩
  have lT : T.length = 24 := by rw [hT]; exact thenT_len _ _ lO
  have gT : goodB T = true := by rw [hT]; exact thenT_good first_len
  refine twice_of A0 c0 l0 A1 c1 l1 d a n T (ofT l0 l1) (afterT T ⟨3, d, a, 0, 0, 0⟩) (afterT T ⟨2, d, a, 0, 0, 0⟩) (afterT T ⟨1, d, 0, 0, n, 0⟩) lT (afterT_len' lT _) (afterT_len' lT _) (afterT_len' lT _) (noNo_of gT) (noNo_of (afterT_good lT _)) (noNo_of (afterT_good lT _))
    (fun w => by rw [hT]; exact env_Then first _ first_len lO w) w (fun w1 hb => env_Of A0 c0 l0 A1 c1 l1 w1 (Kd.C_below hr0 hb) hc0 (Kd.C_below hr1 hb) hc1)
    (fun w => env_After T lT ⟨3, d, a, 0, 0, 0⟩ w) ?_ (fun w => env_After T lT ⟨2, d, a, 0, 0, 0⟩ w) ?_ (fun w => env_After T lT ⟨1, d, 0, 0, n, 0⟩ w) ?_
  · intro w
    have h := env_After (afterT T ⟨3, d, a, 0, 0, 0⟩) (afterT_len' lT _) ⟨3, d, a, 0, 0, 0⟩ w
    rw [twice_swap T lT gT d a] at h
    exact h
  · intro w
    have h := env_After (afterT T ⟨2, d, a, 0, 0, 0⟩) (afterT_len' lT _) ⟨2, d, a, 0, 0, 0⟩ w
    rw [twice_mov T lT gT d a] at h
    exact h
  · intro w
    have h := env_After (afterT T ⟨1, d, 0, 0, n, 0⟩) (afterT_len' lT _) ⟨1, d, 0, 0, n, 0⟩ w
    rw [twice_const T lT gT d n] at h
    exact h

end Go.Proofs.Ytolacdlobopoiaa.Num
