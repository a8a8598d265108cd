/- Which sources may be and which tables are good: env.may, env.Good, walked. Conditions: a table has 24 places. -/
import Derived.Test.YtolacdlobopoiaaNum0
import Derived.Test.YtolacdlobopoiaaEnvA
namespace Go.Proofs.Ytolacdlobopoiaa.Num
open Go.RowKit Go.Proofs.YtolacdlobopoiaaW.PrintWords Go.Proofs.YtolacdlobopoiaaW.PrintLast Go.Proofs.YtolacdlobopoiaaW.PrintMore
attribute [local go_sem] max2_int min2_int max_two min_two max_three min_three max_four min_four   -- for this text's walks alone
set_option linter.unusedVariables false
set_option linter.unusedSimpArgs false

/-- Is a number a place's? -/
def inR (l : Int) : Bool := decide (0 ≤ l ∧ l ≤ 23)
def Sr.ok : Sr → Bool
  | .was l => inR l
  | .is _ => true
  | .no => false
theorem right_calls (l : Int) (w : World) : Calls Try.prog 21 #[.int .i64 l] w fun e w' => e = .returned (.bool (inR l)) ∧ Drawn0 w w' := by
  unfold inR
  refine loc_Right.calls l _ w ?_
  unfold loc_Right.f
  by_cases h : l ≥ 0
  · rw [if_pos h]
    congr 1
    rw [decide_eq_decide]
    omega
  · rw [if_neg h]
    congr 1
    exact (decide_eq_false (by omega)).symm
theorem ta_was (x : Value) (W : World) : (Instr.typeAssert (.iface 47 x) 55 47 true).run Try.prog W = .ok (.tuple #[x, .bool true]) W := by kernel_rfl
theorem ta_was_is (x : Value) (W : World) : (Instr.typeAssert (.iface 47 x) 55 49 true).run Try.prog W = .ok (.tuple #[.agg #[.int .i64 0], .bool false]) W := by kernel_rfl
theorem ta_is_was (x : Value) (W : World) : (Instr.typeAssert (.iface 49 x) 55 47 true).run Try.prog W = .ok (.tuple #[.agg #[.int .i64 0], .bool false]) W := by kernel_rfl
theorem ta_is (x : Value) (W : World) : (Instr.typeAssert (.iface 49 x) 55 49 true).run Try.prog W = .ok (.tuple #[x, .bool true]) W := by kernel_rfl
theorem ta_no_was (W : World) : (Instr.typeAssert .nilIface 55 47 true).run Try.prog W = .ok (.tuple #[.agg #[.int .i64 0], .bool false]) W := by kernel_rfl
theorem ta_no_is (W : World) : (Instr.typeAssert .nilIface 55 49 true).run Try.prog W = .ok (.tuple #[.agg #[.int .i64 0], .bool false]) W := by kernel_rfl
set_option maxHeartbeats 8000000 in
set_option maxRecDepth 100000 in
theorem env_may (s : Sr) (w : World) : Calls Try.prog 66 #[s.v] w fun e w' => e = .returned (.bool s.ok) ∧ Below w.heap.size w w' := by
  have t1 := ta_was
  have t2 := ta_was_is
  have t3 := ta_is_was
  have t4 := ta_is
  have t5 := ta_no_was
  have t6 := ta_no_is
  cases s with
  | was l =>
    unfold Sr.v Sr.ok
    go_enter Try.func66, Try.ntmps66
    go_wp2_with (first | (go_at_call 21; refine (right_calls _ _).mono ?_; rintro e w' ⟨rfl, ⟨nd, rfl⟩⟩))
    go_ret
    exact ⟨rfl, by repeat (first | exact Below.refl _ _ | apply below_alloc | apply pw_below_drewN | refine Below.setCell ?_ (by simp) _)⟩
  | is n =>
    unfold Sr.v Sr.ok
    go_enter Try.func66, Try.ntmps66
    go_wp2
    go_ret
    exact ⟨rfl, by repeat (first | exact Below.refl _ _ | apply below_alloc | apply pw_below_drewN | refine Below.setCell ?_ (by simp) _)⟩
  | no =>
    unfold Sr.v Sr.ok
    go_enter Try.func66, Try.ntmps66
    go_wp2
    go_ret
    exact ⟨rfl, by repeat (first | exact Below.refl _ _ | apply below_alloc | apply pw_below_drewN | refine Below.setCell ?_ (by simp) _)⟩
/-- Are all sources ones that may be? -/
def goodB (T : List Sr) : Bool := T.all Sr.ok
def goodT (T : List Sr) : List Sr := if goodB T = true then T else first
/-- All of the first i sources may be. -/
def GoodTo (T : List Sr) (i : Nat) : Prop := ∀ j (h : j < T.length), j < i → (T[j]).ok = true
theorem goodTo_step {T : List Sr} {i : Nat} (hi : i < T.length) (h : GoodTo T i) (hs : (T[i]).ok = true) : GoodTo T (i + 1) := by
  intro j hj hlt
  by_cases e : j = i
  · subst e; exact hs
  · exact h j hj (by omega)
theorem goodTo_all {T : List Sr} (h : GoodTo T T.length) : goodB T = true := by
  unfold goodB
  rw [List.all_eq_true]
  intro s hs
  obtain ⟨i, hi, rfl⟩ := List.mem_iff_getElem.mp hs
  exact h i hi hi
theorem goodB_bad {T : List Sr} {i : Nat} (hi : i < T.length) (hs : (T[i]).ok = false) : goodB T = false := by
  unfold goodB
  rw [List.all_eq_false]
  exact ⟨T[i], List.getElem_mem hi, by rw [hs]; decide⟩
theorem isAgg55 (W : World) : (isAgg 55).run Try.prog W = .ok false W := by kernel_rfl
theorem sizeOf55 (W : World) : (sizeOf 55).run Try.prog W = .ok 1 W := by kernel_rfl
/-- An element of a table by value. -/
theorem run_index_tab (T : List Sr) (hT : T.length = 24) (i : Nat) (hi : i < T.length) (W : World) : (Instr.index 57 (.agg (tcells T)) (.int .i64 (i : Int))).run Try.prog W = .ok (T[i]).v W := by
  have hg := tcells_get T i hi
  have h0 : (0 : Int) ≤ i := by omega
  have h1 : (i : Int) < 24 := by omega
  have h2 : i < 24 := by omega
  simp [Instr.index, asIntOf, run_underlying Try.underlying57, h0, h1, h2, part, isAgg55, sizeOf55, hg, Result.andThen]
theorem ret_bool {a b : Bool} (h : a = b) : Ending.returned (.bool a) = Ending.returned (.bool b) := by rw [h]
set_option maxHeartbeats 8000000 in
set_option maxRecDepth 100000 in
theorem env_Good (T : List Sr) (hT : T.length = 24) (w : World) : Calls Try.prog 51 #[.agg (tcells T)] w fun e w' => e = .returned (.bool (goodB T)) ∧ Below w.heap.size w w' := by
  have HL := Aside0.mk hT
  clear hT
  obtain ⟨g, hg⟩ : ∃ g, g = goodB T := ⟨_, rfl⟩
  rw [← hg]
  have HG := Aside0.mk hg
  clear hg
  go_enter Try.func51, Try.ntmps51
  go_wp2_with (first
        | ((with_reducible refine gate_dst (N := 5) rfl ?_); refine wpList_load_row rfl 57 _ rfl w.heap.size rfl 57 (tcells T) (0, 0) _ (heap_alloc_new w _) Try.underlying57 rfl (by rw [tcells_size, HL.out]; exact info57) ?_))
  go_loopw [6] (fun c wr => ∃ i : Nat, c = .int .i64 i ∧ Aside0 (i ≤ 24 ∧ GoodTo T i ∧ Below w.heap.size w wr)) (fun c _ => 24 - (intOf c).toNat)
  case atStart => exact ⟨0, rfl, ⟨⟨by omega, fun j _ h => by omega, below_alloc (Below.refl _ _) _⟩⟩⟩
  case round =>
    obtain ⟨i, rfl, HS⟩ := hrel
    by_cases hi : i < 24
    · have hix := run_index_tab T HL.out i (by rw [HL.out]; exact hi)
      have hi' : (i : Int) < 24 := by omega
      obtain ⟨s, hs⟩ : ∃ s, s = T[i]'(by rw [HL.out]; exact hi) := ⟨_, rfl⟩
      rw [← hs] at hix
      have HE := Aside0.mk hs
      clear hs
      cases hok : s.ok with
      | true =>
        have HO := Aside0.mk hok
        have hm := env_may s
        rw [hok] at hm
        have HM := Aside0.mk hm
        clear hok hm
        go_wp2_with (first | (go_at_call 66; refine (HM.out _).mono ?_; rintro e w' ⟨rfl, hb⟩; have HB := Aside0.mk hb; clear hb))
        go_roundw
        case rel => exact ⟨i + 1, by go_num, ⟨⟨by omega, goodTo_step (by rw [HL.out]; exact hi) HS.out.2.1 (by rw [← HE.out]; exact HO.out), below_step HS.out.2.2 HB.out⟩⟩⟩
        case measure => simp [intOf]; omega
      | false =>
        have hg := goodB_bad (T := T) (i := i) (by rw [HL.out]; exact hi) (by rw [← HE.out]; exact hok)
        obtain rfl : g = false := HG.out.trans hg
        have hm := env_may s
        rw [hok] at hm
        have HM := Aside0.mk hm
        clear hok hm hg
        go_wp2_with (first | (go_at_call 66; refine (HM.out _).mono ?_; rintro e w' ⟨rfl, hb⟩; have HB := Aside0.mk hb; clear hb))
        go_ret
        exact ⟨rfl, below_step HS.out.2.2 HB.out⟩
    · obtain rfl : i = 24 := by have := HS.out.1; omega
      have hg := goodTo_all (T := T) (by rw [HL.out]; exact HS.out.2.1)
      obtain rfl : g = true := HG.out.trans hg
      clear hg
      go_wp2
      go_ret
      exact ⟨rfl, HS.out.2.2⟩

end Go.Proofs.Ytolacdlobopoiaa.Num
