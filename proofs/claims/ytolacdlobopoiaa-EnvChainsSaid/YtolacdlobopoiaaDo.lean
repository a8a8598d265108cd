/- What num.Do, num.Has and num.Parse answer, and that the Go code comes to it, for all numbers and texts. Conditions: none. -/
import Derived.Test.YtolacdlobopoiaaNum0
import Derived.Test.YtolacdlobopoiaaLoc
import Derived.Carry
namespace Go.Proofs.Ytolacdlobopoiaa.Num
open Go.RowKit Go.Proofs.YtolacdlobopoiaaW.PrintWords Go.Proofs.YtolacdlobopoiaaW.PrintLast Go.Proofs.YtolacdlobopoiaaW.PrintMore
attribute [local go_sem] max2_int min2_int max_two min_two max_three min_three max_four min_four   -- for this text's walks alone
set_option linter.unusedVariables false
set_option linter.unusedSimpArgs false

/-! #### a map of the call's own, keyed by whole numbers, told by its entries -/
section
variable {P : Program}
open Go.ChangeMaps (setBlock)
theorem run_insert_new {t kt et : TypeId} (hu : P.underlying t = some (.map kt et)) (hk : P.underlying kt = some (.int .i64)) (W : World) (b : Nat) (es : Array MapEntry) (c : Nat) (k : Int) (v : Value) (hh : W.heap[b]? = some (.map es c)) (hf : Instr.findNow (.int .i64) (.int .i64 k) es.toList 0 = some none) :
    (Instr.mapUpdate t (.map (some b)) (.int .i64 k) v).run P W = .ok () (setBlock W b (.map (es.push { key := .int .i64 k, val := v, born := c }) (c + 1))) := by
  have h1 := MapKept.run_checkKey (P := P) (w := W) (k := .int .i64 k) hk (show MapKept.IsKey (.int .i64) (.int .i64 k) from rfl) false 9999
  have h2 := MapKept.run_findKey (P := P) (w := W) hk hf
  simp [Instr.mapUpdate, run_underlying hu, MapKept.run_getObj_map hh, h1, h2, MapKept.run_setObj_map _ hh, Result.andThen, setBlock]
theorem run_lookup_new {t kt et : TypeId} (hu : P.underlying t = some (.map kt et)) (hk : P.underlying kt = some (.int .i64)) (W : World) (b : Nat) (es : Array MapEntry) (c : Nat) (k : Int) (z : Value) (hh : W.heap[b]? = some (.map es c)) (hz : (zeroValue et).run P W = .ok z W) (hf : Instr.findNow (.int .i64) (.int .i64 k) es.toList 0 = some none) :
    (Instr.lookup t (.map (some b)) (.int .i64 k) false).run P W = .ok z W := by
  have h1 := MapKept.run_checkKey (P := P) (w := W) (k := .int .i64 k) hk (show MapKept.IsKey (.int .i64) (.int .i64 k) from rfl) es.isEmpty 9999
  have h2 := MapKept.run_findKey (P := P) (w := W) hk hf
  simp [Instr.lookup, run_underlying hu, MapKept.run_getObj_map hh, h1, h2, hz, Result.andThen]
theorem run_lookup_met {t kt et : TypeId} (hu : P.underlying t = some (.map kt et)) (hk : P.underlying kt = some (.int .i64)) (W : World) (b : Nat) (es : Array MapEntry) (c : Nat) (k : Int) (i : Nat) (v : Value) (hh : W.heap[b]? = some (.map es c)) (hf : Instr.findNow (.int .i64) (.int .i64 k) es.toList 0 = some (some (i, v))) :
    (Instr.lookup t (.map (some b)) (.int .i64 k) false).run P W = .ok v W := by
  have h1 := MapKept.run_checkKey (P := P) (w := W) (k := .int .i64 k) hk (show MapKept.IsKey (.int .i64) (.int .i64 k) from rfl) es.isEmpty 9999
  have h2 := MapKept.run_findKey (P := P) (w := W) hk hf
  simp [Instr.lookup, run_underlying hu, MapKept.run_getObj_map hh, h1, h2, Result.andThen]
theorem setBlock_alloc (W : World) (o o' : Obj) : setBlock (W.alloc o) W.heap.size o' = W.alloc o' := by
  simp only [setBlock, World.alloc]
  congr 1
  apply Array.ext'
  simp [Array.setIfInBounds, Array.toList_push]
end
def deed (i : Nat) : MapEntry := { key := .int .i64 (4 + i), val := .func (.func (if i = 8 then 65 else 56 + i)) #[] #[], born := i }
def deedRow (n : Nat) : Array MapEntry := ((List.range n).map deed).toArray
theorem deedRow_push (n : Nat) : (deedRow n).push (deed n) = deedRow (n + 1) := by
  unfold deedRow
  simp [List.range_succ]
theorem run_deed (i : Nat) (k : Int) (f : Nat) (hk : k = 4 + i) (hfn : f = if i = 8 then 65 else 56 + i) (hf : Instr.findNow (.int .i64) (.int .i64 (4 + i)) (deedRow i).toList 0 = some none) (W : World) :
    (Instr.mapUpdate 82 (.map (some W.heap.size)) (.int .i64 k) (.func (.func f) #[] #[])).run Try.prog (W.alloc (.map (deedRow i) i)) = .ok () (W.alloc (.map (deedRow (i + 1)) (i + 1))) := by
  subst hk hfn
  rw [run_insert_new Try.underlying82 Try.underlying3 (W.alloc (.map (deedRow i) i)) W.heap.size (deedRow i) i _ _ (heap_alloc_new W _) hf, setBlock_alloc, ← deedRow_push]
  rfl
def deedsHeap (W : World) : World := W.alloc (.map (deedRow 9) 9)
set_option maxHeartbeats 8000000 in
set_option maxRecDepth 100000 in
theorem deeds_any (w : World) :
    Calls Try.prog 49 #[] w fun e w' => e = .returned (.map (some w.heap.size)) ∧ w' = deedsHeap w := by
  have hmm : ∀ (t : TypeId) (w : World), (Instr.makeMap t none).run Try.prog w = .ok (.map (some w.heap.size)) (w.alloc (.map (deedRow 0) 0)) := @run_makeMap Try.prog
  have h0 := run_deed 0 4 56 rfl rfl rfl
  have h1 := run_deed 1 5 57 rfl rfl rfl
  have h2 := run_deed 2 6 58 rfl rfl rfl
  have h3 := run_deed 3 7 59 rfl rfl rfl
  have h4 := run_deed 4 8 60 rfl rfl rfl
  have h5 := run_deed 5 9 61 rfl rfl rfl
  have h6 := run_deed 6 10 62 rfl rfl rfl
  have h7 := run_deed 7 11 63 rfl rfl rfl
  have h8 := run_deed 8 12 65 rfl rfl rfl
  go_enter Try.func49, Try.ntmps49
  go_wp2
  go_ret
  exact ⟨rfl, rfl⟩

/-- What comes of an operation, and how. -/
def num_Do.v (op a b : Int) : Int × Int :=
  if op = 4 then (wrap64 (a + b), 0) else if op = 5 then (wrap64 (a - b), 0) else if op = 6 then (wrap64 (a * b), 0)
  else if op = 7 then (if b = 0 then (0, 3) else (wrap64 (Int.tdiv a b), 0))
  else if op = 8 then (Go.bits .and .i64 a b, 0) else if op = 9 then (Go.bits .or .i64 a b, 0) else if op = 10 then (Go.bits .xor .i64 a b, 0)
  else if op = 11 then ((if a < b then 1 else 0), 0) else if op = 12 then ((if a = b then 1 else 0), 0) else (0, 2)
def num_Do.f (op a b : Int) : Option (Int × Int) := some (num_Do.v op a b)
theorem deeds_lookup (w : World) (i : Nat) (op : Int) (f : Nat) (hk : op = 4 + i) (hfn : f = if i = 8 then 65 else 56 + i) (hf : Instr.findNow (.int .i64) (.int .i64 (4 + i)) (deedRow 9).toList 0 = some (some (i, (deed i).val))) :
    (Instr.lookup 82 (.map (some w.heap.size)) (.int .i64 op) false).run Try.prog (deedsHeap w) = .ok (.func (.func f) #[] #[]) (deedsHeap w) := by
  subst hk hfn
  exact run_lookup_met Try.underlying82 Try.underlying3 (deedsHeap w) w.heap.size (deedRow 9) 9 _ i _ (heap_alloc_new w _) hf
theorem deeds_lookup_none (w : World) (op : Int) (h : op < 4 ∨ 12 < op) :
    (Instr.lookup 82 (.map (some w.heap.size)) (.int .i64 op) false).run Try.prog (deedsHeap w) = .ok .nilFunc (deedsHeap w) := by
  refine run_lookup_new Try.underlying82 Try.underlying3 (deedsHeap w) w.heap.size (deedRow 9) 9 _ _ (heap_alloc_new w _) ?_ ?_
  · have hz : ∀ W : World, (zeroValue 81).run Try.prog W = .ok .nilFunc W := fun W => by kernel_rfl
    exact hz _
  · have hn : ∀ j : Int, 4 ≤ j → j ≤ 12 → (op == j) = false := fun j h1 h2 => beq_eq_false_iff_ne.mpr (by omega)
    simp [deedRow, deed, List.range_succ, Instr.findNow, Instr.sameNow, hn]
theorem func_nil (W : World) : (binOp .eql 81 Value.nilFunc .nilFunc).run Try.prog W = .ok (.bool true) W := by kernel_rfl
theorem func_not_nil (f : Nat) (W : World) : (binOp .eql 81 (.func (.func f) #[] #[]) .nilFunc).run Try.prog W = .ok (.bool false) W := by kernel_rfl
theorem below_deeds (w : World) : Below w.heap.size w (deedsHeap w) := below_alloc (Below.refl _ _) _
set_option maxRecDepth 100000 in
theorem deed56_any (a b : Int) (w : World) : Calls Try.prog 56 #[.int .i64 a, .int .i64 b] w fun e w' => e = .returned (.int .i64 (wrap64 (a + b))) ∧ w = w' := by
  go_enter Try.func56, Try.ntmps56
  go_wp2
  go_ret
  exact ⟨rfl, rfl⟩
set_option maxRecDepth 100000 in
theorem deed57_any (a b : Int) (w : World) : Calls Try.prog 57 #[.int .i64 a, .int .i64 b] w fun e w' => e = .returned (.int .i64 (wrap64 (a - b))) ∧ w = w' := by
  go_enter Try.func57, Try.ntmps57
  go_wp2
  go_ret
  exact ⟨rfl, rfl⟩
set_option maxRecDepth 100000 in
theorem deed58_any (a b : Int) (w : World) : Calls Try.prog 58 #[.int .i64 a, .int .i64 b] w fun e w' => e = .returned (.int .i64 (wrap64 (a * b))) ∧ w = w' := by
  go_enter Try.func58, Try.ntmps58
  go_wp2
  go_ret
  exact ⟨rfl, rfl⟩
set_option maxRecDepth 100000 in
theorem deed60_any (a b : Int) (w : World) : Calls Try.prog 60 #[.int .i64 a, .int .i64 b] w fun e w' => e = .returned (.int .i64 (Go.bits .and .i64 a b)) ∧ w = w' := by
  go_enter Try.func60, Try.ntmps60
  go_wp2
  go_ret
  exact ⟨rfl, rfl⟩
set_option maxRecDepth 100000 in
theorem deed61_any (a b : Int) (w : World) : Calls Try.prog 61 #[.int .i64 a, .int .i64 b] w fun e w' => e = .returned (.int .i64 (Go.bits .or .i64 a b)) ∧ w = w' := by
  go_enter Try.func61, Try.ntmps61
  go_wp2
  go_ret
  exact ⟨rfl, rfl⟩
set_option maxRecDepth 100000 in
theorem deed62_any (a b : Int) (w : World) : Calls Try.prog 62 #[.int .i64 a, .int .i64 b] w fun e w' => e = .returned (.int .i64 (Go.bits .xor .i64 a b)) ∧ w = w' := by
  go_enter Try.func62, Try.ntmps62
  go_wp2
  go_ret
  exact ⟨rfl, rfl⟩
set_option maxRecDepth 100000 in
theorem deed59_any (a b : Int) (w : World) (hb : ¬ b = 0) : Calls Try.prog 59 #[.int .i64 a, .int .i64 b] w fun e w' => e = .returned (.int .i64 (wrap64 (Int.tdiv a b))) ∧ w = w' := by
  go_enter Try.func59, Try.ntmps59
  go_wp2
  go_ret
  exact ⟨rfl, rfl⟩
set_option maxRecDepth 100000 in
theorem flag_true (w : World) : Calls Try.prog 64 #[.bool true] w fun e w' => e = .returned (.int .i64 1) ∧ w = w' := by
  go_enter Try.func64, Try.ntmps64
  go_wp2
  go_ret
  exact ⟨rfl, rfl⟩
set_option maxRecDepth 100000 in
theorem flag_false (w : World) : Calls Try.prog 64 #[.bool false] w fun e w' => e = .returned (.int .i64 0) ∧ w = w' := by
  go_enter Try.func64, Try.ntmps64
  go_wp2
  go_ret
  exact ⟨rfl, rfl⟩
set_option maxRecDepth 100000 in
theorem deed63_any (a b : Int) (w : World) : Calls Try.prog 63 #[.int .i64 a, .int .i64 b] w fun e w' => e = .returned (.int .i64 (if a < b then 1 else 0)) ∧ w = w' := by
  by_cases h : a < b
  · rw [if_pos h]
    have h2 : decide (a < b) = true := decide_eq_true h
    clear h
    go_enter Try.func63, Try.ntmps63
    go_wp2_with (go_at_call 64; refine (flag_true _).mono ?_; rintro e w' ⟨rfl, rfl⟩)
    go_ret
    exact ⟨rfl, rfl⟩
  · rw [if_neg h]
    have h2 : decide (a < b) = false := decide_eq_false h
    clear h
    go_enter Try.func63, Try.ntmps63
    go_wp2_with (go_at_call 64; refine (flag_false _).mono ?_; rintro e w' ⟨rfl, rfl⟩)
    go_ret
    exact ⟨rfl, rfl⟩
set_option maxRecDepth 100000 in
theorem deed65_any (a b : Int) (w : World) : Calls Try.prog 65 #[.int .i64 a, .int .i64 b] w fun e w' => e = .returned (.int .i64 (if a = b then 1 else 0)) ∧ w = w' := by
  by_cases h : a = b
  · rw [if_pos h]
    have h2 : (a == b) = true := beq_iff_eq.mpr h
    clear h
    go_enter Try.func65, Try.ntmps65
    go_wp2_with (go_at_call 64; refine (flag_true _).mono ?_; rintro e w' ⟨rfl, rfl⟩)
    go_ret
    exact ⟨rfl, rfl⟩
  · rw [if_neg h]
    have h2 : (a == b) = false := beq_eq_false_iff_ne.mpr h
    clear h
    go_enter Try.func65, Try.ntmps65
    go_wp2_with (go_at_call 64; refine (flag_false _).mono ?_; rintro e w' ⟨rfl, rfl⟩)
    go_ret
    exact ⟨rfl, rfl⟩
set_option maxHeartbeats 8000000 in
set_option maxRecDepth 100000 in
theorem num_Do.calls (a0 : Int) (a1 : Int) (a2 : Int) (r1 : Int) (r2 : Int) (w : World) (h : num_Do.f a0 a1 a2 = some (r1, r2)) :
    Calls Try.prog 27 #[.int .i64 a0, .int .i64 a1, .int .i64 a2] w fun e w' => e = .returned (.tuple #[.int .i64 r1, .int .i64 r2]) ∧ Below w.heap.size w w' := by
  by_cases hin : a0 < 4 ∨ 12 < a0
  · have hl := deeds_lookup_none w a0 hin
    have hv : num_Do.v a0 a1 a2 = (0, 2) := by
      unfold num_Do.v
      rw [if_neg (by omega), if_neg (by omega), if_neg (by omega), if_neg (by omega), if_neg (by omega), if_neg (by omega), if_neg (by omega), if_neg (by omega), if_neg (by omega)]
    unfold num_Do.f at h
    rw [hv] at h
    simp only [Option.some.injEq, Prod.mk.injEq] at h
    obtain ⟨rfl, rfl⟩ := h
    have hn := func_nil
    clear hv hin
    go_enter Try.func27, Try.ntmps27
    go_wp2_with (go_at_call 49; refine (deeds_any _).mono ?_; rintro e w' ⟨rfl, rfl⟩)
    go_ret2
    exact ⟨rfl, below_deeds _⟩
  · have hn := func_not_nil
    have h12 : a0 = 4 ∨ a0 = 5 ∨ a0 = 6 ∨ a0 = 7 ∨ a0 = 8 ∨ a0 = 9 ∨ a0 = 10 ∨ a0 = 11 ∨ a0 = 12 := by omega
    rcases h12 with rfl | rfl | rfl | rfl | rfl | rfl | rfl | rfl | rfl
    · have hl := deeds_lookup w 0 4 56 rfl rfl rfl
      replace h : some ((wrap64 (a1 + a2), 0) : Int × Int) = some (r1, r2) := h
      simp only [Option.some.injEq, Prod.mk.injEq] at h
      obtain ⟨rfl, rfl⟩ := h
      go_enter Try.func27, Try.ntmps27
      go_wp2_with (first | (go_at_call 49; refine (deeds_any _).mono ?_; rintro e w' ⟨rfl, rfl⟩) | (go_at_call 56; refine (deed56_any _ _ _).mono ?_; rintro e w' ⟨rfl, rfl⟩))
      go_ret2
      exact ⟨rfl, below_deeds _⟩
    · have hl := deeds_lookup w 1 5 57 rfl rfl rfl
      replace h : some ((wrap64 (a1 - a2), 0) : Int × Int) = some (r1, r2) := h
      simp only [Option.some.injEq, Prod.mk.injEq] at h
      obtain ⟨rfl, rfl⟩ := h
      go_enter Try.func27, Try.ntmps27
      go_wp2_with (first | (go_at_call 49; refine (deeds_any _).mono ?_; rintro e w' ⟨rfl, rfl⟩) | (go_at_call 57; refine (deed57_any _ _ _).mono ?_; rintro e w' ⟨rfl, rfl⟩))
      go_ret2
      exact ⟨rfl, below_deeds _⟩
    · have hl := deeds_lookup w 2 6 58 rfl rfl rfl
      replace h : some ((wrap64 (a1 * a2), 0) : Int × Int) = some (r1, r2) := h
      simp only [Option.some.injEq, Prod.mk.injEq] at h
      obtain ⟨rfl, rfl⟩ := h
      go_enter Try.func27, Try.ntmps27
      go_wp2_with (first | (go_at_call 49; refine (deeds_any _).mono ?_; rintro e w' ⟨rfl, rfl⟩) | (go_at_call 58; refine (deed58_any _ _ _).mono ?_; rintro e w' ⟨rfl, rfl⟩))
      go_ret2
      exact ⟨rfl, below_deeds _⟩
    · have hl := deeds_lookup w 3 7 59 rfl rfl rfl
      by_cases hb : a2 = 0
      · subst hb
        replace h : some ((0, 3) : Int × Int) = some (r1, r2) := h
        simp only [Option.some.injEq, Prod.mk.injEq] at h
        obtain ⟨rfl, rfl⟩ := h
        go_enter Try.func27, Try.ntmps27
        go_wp2_with (go_at_call 49; refine (deeds_any _).mono ?_; rintro e w' ⟨rfl, rfl⟩)
        go_ret2
        exact ⟨rfl, below_deeds _⟩
      · replace h : some (if a2 = 0 then ((0, 3) : Int × Int) else (wrap64 (Int.tdiv a1 a2), 0)) = some (r1, r2) := h
        rw [if_neg hb] at h
        simp only [Option.some.injEq, Prod.mk.injEq] at h
        obtain ⟨rfl, rfl⟩ := h
        have hb2 : (a2 == 0) = false := beq_eq_false_iff_ne.mpr hb
        have HB := Aside0.mk hb
        clear hb
        go_enter Try.func27, Try.ntmps27
        go_wp2_with (first | (go_at_call 49; refine (deeds_any _).mono ?_; rintro e w' ⟨rfl, rfl⟩) | (go_at_call 59; refine (deed59_any _ _ _ HB.out).mono ?_; rintro e w' ⟨rfl, rfl⟩))
        go_ret2
        exact ⟨rfl, below_deeds _⟩
    · have hl := deeds_lookup w 4 8 60 rfl rfl rfl
      replace h : some ((Go.bits .and .i64 a1 a2, 0) : Int × Int) = some (r1, r2) := h
      simp only [Option.some.injEq, Prod.mk.injEq] at h
      obtain ⟨rfl, rfl⟩ := h
      go_enter Try.func27, Try.ntmps27
      go_wp2_with (first | (go_at_call 49; refine (deeds_any _).mono ?_; rintro e w' ⟨rfl, rfl⟩) | (go_at_call 60; refine (deed60_any _ _ _).mono ?_; rintro e w' ⟨rfl, rfl⟩))
      go_ret2
      exact ⟨rfl, below_deeds _⟩
    · have hl := deeds_lookup w 5 9 61 rfl rfl rfl
      replace h : some ((Go.bits .or .i64 a1 a2, 0) : Int × Int) = some (r1, r2) := h
      simp only [Option.some.injEq, Prod.mk.injEq] at h
      obtain ⟨rfl, rfl⟩ := h
      go_enter Try.func27, Try.ntmps27
      go_wp2_with (first | (go_at_call 49; refine (deeds_any _).mono ?_; rintro e w' ⟨rfl, rfl⟩) | (go_at_call 61; refine (deed61_any _ _ _).mono ?_; rintro e w' ⟨rfl, rfl⟩))
      go_ret2
      exact ⟨rfl, below_deeds _⟩
    · have hl := deeds_lookup w 6 10 62 rfl rfl rfl
      replace h : some ((Go.bits .xor .i64 a1 a2, 0) : Int × Int) = some (r1, r2) := h
      simp only [Option.some.injEq, Prod.mk.injEq] at h
      obtain ⟨rfl, rfl⟩ := h
      go_enter Try.func27, Try.ntmps27
      go_wp2_with (first | (go_at_call 49; refine (deeds_any _).mono ?_; rintro e w' ⟨rfl, rfl⟩) | (go_at_call 62; refine (deed62_any _ _ _).mono ?_; rintro e w' ⟨rfl, rfl⟩))
      go_ret2
      exact ⟨rfl, below_deeds _⟩
    · have hl := deeds_lookup w 7 11 63 rfl rfl rfl
      replace h : some ((if a1 < a2 then 1 else 0, 0) : Int × Int) = some (r1, r2) := h
      simp only [Option.some.injEq, Prod.mk.injEq] at h
      obtain ⟨rfl, rfl⟩ := h
      go_enter Try.func27, Try.ntmps27
      go_wp2_with (first | (go_at_call 49; refine (deeds_any _).mono ?_; rintro e w' ⟨rfl, rfl⟩) | (go_at_call 63; refine (deed63_any _ _ _).mono ?_; rintro e w' ⟨rfl, rfl⟩))
      all_goals (go_ret2; exact ⟨rfl, below_deeds _⟩)
    · have hl := deeds_lookup w 8 12 65 rfl rfl rfl
      replace h : some ((if a1 = a2 then 1 else 0, 0) : Int × Int) = some (r1, r2) := h
      simp only [Option.some.injEq, Prod.mk.injEq] at h
      obtain ⟨rfl, rfl⟩ := h
      go_enter Try.func27, Try.ntmps27
      go_wp2_with (first | (go_at_call 49; refine (deeds_any _).mono ?_; rintro e w' ⟨rfl, rfl⟩) | (go_at_call 65; refine (deed65_any _ _ _).mono ?_; rintro e w' ⟨rfl, rfl⟩))
      all_goals (go_ret2; exact ⟨rfl, below_deeds _⟩)

def num_Has.f (op : Int) : Option Bool := some (decide (4 ≤ op ∧ op ≤ 12))
theorem func_ne_nil (W : World) : (binOp .neq 81 Value.nilFunc .nilFunc).run Try.prog W = .ok (.bool false) W := by kernel_rfl
theorem func_not_ne_nil (f : Nat) (W : World) : (binOp .neq 81 (.func (.func f) #[] #[]) .nilFunc).run Try.prog W = .ok (.bool true) W := by kernel_rfl
theorem deeds_has (w : World) (op : Int) (h : 4 ≤ op ∧ op ≤ 12) : ∃ f, (Instr.lookup 82 (.map (some w.heap.size)) (.int .i64 op) false).run Try.prog (deedsHeap w) = .ok (.func (.func f) #[] #[]) (deedsHeap w) := by
  have h12 : op = 4 ∨ op = 5 ∨ op = 6 ∨ op = 7 ∨ op = 8 ∨ op = 9 ∨ op = 10 ∨ op = 11 ∨ op = 12 := by omega
  rcases h12 with rfl | rfl | rfl | rfl | rfl | rfl | rfl | rfl | rfl
  · exact ⟨_, deeds_lookup w 0 4 56 rfl rfl rfl⟩
  · exact ⟨_, deeds_lookup w 1 5 57 rfl rfl rfl⟩
  · exact ⟨_, deeds_lookup w 2 6 58 rfl rfl rfl⟩
  · exact ⟨_, deeds_lookup w 3 7 59 rfl rfl rfl⟩
  · exact ⟨_, deeds_lookup w 4 8 60 rfl rfl rfl⟩
  · exact ⟨_, deeds_lookup w 5 9 61 rfl rfl rfl⟩
  · exact ⟨_, deeds_lookup w 6 10 62 rfl rfl rfl⟩
  · exact ⟨_, deeds_lookup w 7 11 63 rfl rfl rfl⟩
  · exact ⟨_, deeds_lookup w 8 12 65 rfl rfl rfl⟩
set_option maxHeartbeats 8000000 in
set_option maxRecDepth 100000 in
theorem num_Has.calls (a0 : Int) (r : Bool) (w : World) (h : num_Has.f a0 = some r) :
    Calls Try.prog 29 #[.int .i64 a0] w fun e w' => e = .returned (.bool r) ∧ Below w.heap.size w w' := by
  unfold num_Has.f at h
  obtain rfl := Option.some.inj h
  by_cases hin : 4 ≤ a0 ∧ a0 ≤ 12
  · obtain ⟨f, hl⟩ := deeds_has w a0 hin
    rw [decide_eq_true hin]
    have hn := func_not_ne_nil
    clear h hin
    go_enter Try.func29, Try.ntmps29
    go_wp2_with (go_at_call 49; refine (deeds_any _).mono ?_; rintro e w' ⟨rfl, rfl⟩)
    go_ret
    exact ⟨rfl, below_deeds _⟩
  · have hl := deeds_lookup_none w a0 (by omega)
    rw [decide_eq_false hin]
    have hn := func_ne_nil
    clear h hin
    go_enter Try.func29, Try.ntmps29
    go_wp2_with (go_at_call 49; refine (deeds_any _).mono ?_; rintro e w' ⟨rfl, rfl⟩)
    go_ret
    exact ⟨rfl, below_deeds _⟩

/-- The number that the first n letters make as digits. -/
def dv (t : ByteArray) : Nat → Int
  | 0 => 0
  | n + 1 => dv t n * 10 + (bt t n - 48)
def isLow (s : ByteArray) : Bool := decide (0 < s.size ∧ bt s 0 = 45)
def digs (s : ByteArray) : ByteArray := if isLow s = true then s.extract 1 s.size else s
def DigsOk (t : ByteArray) (n : Nat) : Prop := ∀ i : Nat, i < n → 48 ≤ bt t i ∧ bt t i ≤ 57
instance (t : ByteArray) (n : Nat) : Decidable (DigsOk t n) := by unfold DigsOk; infer_instance
def top63 : Int := 9223372036854775807
/-- Of digits, with or without a sign: the number, if they are one's. -/
def num_Parse.sized (t : ByteArray) (low : Bool) : Option Int :=
  if t.size = 0 ∨ 19 < t.size ∨ (bt t 0 = 48 ∧ (1 < t.size ∨ low = true)) then none
  else if DigsOk t t.size then (if low = true then (if dv t t.size ≤ top63 + 1 then some (-(dv t t.size)) else none) else (if dv t t.size ≤ top63 then some (dv t t.size) else none))
  else none
def num_Parse.num (s : ByteArray) : Option Int := num_Parse.sized (digs s) (isLow s)
def num_Parse.f (s : ByteArray) : Option (Int × Int) := some (match num_Parse.num s with | some n => (n, 0) | none => (0, 2))
theorem num_Parse.of_none {s : ByteArray} {r1 r2 : Int} (h : num_Parse.f s = some (r1, r2)) (hn : num_Parse.num s = none) : r1 = 0 ∧ r2 = 2 := by
  unfold num_Parse.f at h
  rw [hn] at h
  simp only [Option.some.injEq, Prod.mk.injEq] at h
  omega
theorem num_Parse.of_some {s : ByteArray} {r1 r2 l : Int} (h : num_Parse.f s = some (r1, r2)) (hn : num_Parse.num s = some l) : r1 = l ∧ r2 = 0 := by
  unfold num_Parse.f at h
  rw [hn] at h
  simp only [Option.some.injEq, Prod.mk.injEq] at h
  omega
theorem dv_bound (t : ByteArray) (n : Nat) (h : DigsOk t n) : 0 ≤ dv t n ∧ dv t n + 1 ≤ 10 ^ n := by
  induction n with
  | zero => simp [dv]
  | succ n ih =>
    have h1 := ih (fun i hi => h i (by omega))
    have h2 := h n (by omega)
    simp only [dv]
    have e : (10 : Int) ^ (n + 1) = 10 ^ n * 10 := by rw [Int.pow_succ]
    rw [e]
    generalize (10 : Int) ^ n = p at *
    omega
theorem dv_cap (t : ByteArray) (n : Nat) (h : DigsOk t n) (hn : n ≤ 18) : 0 ≤ dv t n ∧ dv t n ≤ 999999999999999999 := by
  have h1 := dv_bound t n h
  have h2 : (10 : Int) ^ n ≤ 10 ^ 18 := by
    have h4 : 10 ^ n ≤ 10 ^ 18 := Nat.pow_le_pow_right (by decide) hn
    exact_mod_cast h4
  have h3 : (10 : Int) ^ 18 = 1000000000000000000 := by decide
  omega
theorem wrapu_neg {v : Int} (h1 : 1 ≤ v) (h2 : v ≤ 9999999999999999999) : IntKind.u64.wrap (-v) = 18446744073709551616 - v := by
  have e : IntKind.u64.wrap (-v) = (-v) % 18446744073709551616 := by simp [IntKind.wrap, IntKind.bits, IntKind.signed]
  rw [e]
  omega
theorem ret_pair {a b c : Int} (h : a = b) : Ending.returned (.tuple #[.int .i64 a, .int .i64 c]) = Ending.returned (.tuple #[.int .i64 b, .int .i64 c]) := by rw [h]
theorem neg_small {v : Int} (h1 : 1 ≤ v) (h2 : v ≤ 9999999999999999999) (h : v ≤ top63 + 1) : IntKind.u64.wrap (-9223372036854775808) ≤ IntKind.u64.wrap (-v) := by
  unfold top63 at h
  rw [wrapu_neg h1 h2, wrapu_neg (by omega) (by omega)]
  omega
theorem neg_big {v : Int} (h1 : 1 ≤ v) (h2 : v ≤ 9999999999999999999) (h : ¬ v ≤ top63 + 1) : IntKind.u64.wrap (-v) < IntKind.u64.wrap (-9223372036854775808) := by
  unfold top63 at h
  rw [wrapu_neg h1 h2, wrapu_neg (by omega) (by omega)]
  omega
theorem neg_back {v : Int} (h1 : 1 ≤ v) (h2 : v ≤ 9999999999999999999) (h : v ≤ top63 + 1) : wrap64 (IntKind.u64.wrap (-v)) = -v := by
  unfold top63 at h
  rw [wrapu_neg h1 h2]
  unfold wrap64
  omega
theorem dv_19 (t : ByteArray) (n : Nat) (h : DigsOk t n) (hn : n ≤ 19) : dv t n ≤ 9999999999999999999 := by
  have h1 := dv_bound t n h
  have h2 : (10 : Int) ^ n ≤ 10 ^ 19 := by
    have h4 : 10 ^ n ≤ 10 ^ 19 := Nat.pow_le_pow_right (by decide) hn
    exact_mod_cast h4
  have h3 : (10 : Int) ^ 19 = 10000000000000000000 := by decide
  omega
theorem dv_pos (t : ByteArray) (n : Nat) (h : DigsOk t n) (h0 : 0 < n) (hb : bt t 0 ≠ 48) : 1 ≤ dv t n := by
  induction n with
  | zero => omega
  | succ n ih =>
    have h2 := h n (by omega)
    simp only [dv]
    by_cases e : n = 0
    · subst e
      rw [bt_zero] at *
      simp only [dv]
      omega
    · have := ih (fun i hi => h i (by omega)) (by omega)
      omega
theorem digsOk_step {t : ByteArray} {n : Nat} (h : DigsOk t n) (hc : 48 ≤ bt t n ∧ bt t n ≤ 57) : DigsOk t (n + 1) := by
  intro i hi
  by_cases e : i = n
  · subst e; exact hc
  · exact h i (by omega)
theorem num_Parse.none_size {t : ByteArray} {low : Bool} (h : t.size = 0 ∨ 19 < t.size ∨ (bt t 0 = 48 ∧ (1 < t.size ∨ low = true))) : num_Parse.sized t low = none := by
  unfold num_Parse.sized
  rw [if_pos h]
theorem num_Parse.none_dig {t : ByteArray} {low : Bool} {i : Nat} (hi : i < t.size) (hc : bt t i < 48 ∨ 57 < bt t i) : num_Parse.sized t low = none := by
  unfold num_Parse.sized
  split
  · rfl
  · rw [if_neg (fun h => by have := h i hi; omega)]
def num_Parse.Bad (t : ByteArray) (low : Bool) : Prop := t.size = 0 ∨ 19 < t.size ∨ (bt t 0 = 48 ∧ (1 < t.size ∨ low = true))
theorem num_Parse.some_up {t : ByteArray} (h : ¬ num_Parse.Bad t false) (hd : DigsOk t t.size) :
    num_Parse.sized t false = if dv t t.size ≤ top63 then some (dv t t.size) else none := by
  unfold num_Parse.Bad at h
  unfold num_Parse.sized
  rw [if_neg h, if_pos hd, if_neg (by decide)]
theorem num_Parse.some_low {t : ByteArray} (h : ¬ num_Parse.Bad t true) (hd : DigsOk t t.size) :
    num_Parse.sized t true = if dv t t.size ≤ top63 + 1 then some (-(dv t t.size)) else none := by
  unfold num_Parse.Bad at h
  unfold num_Parse.sized
  rw [if_neg h, if_pos hd, if_pos rfl]

set_option maxHeartbeats 8000000 in
set_option maxRecDepth 100000 in
theorem num_Parse.calls (a0 : ByteArray) (r1 : Int) (r2 : Int) (w : World) (h : num_Parse.f a0 = some (r1, r2)) :
    Calls Try.prog 32 #[.string a0] w fun e w' => e = .returned (.tuple #[.int .i64 r1, .int .i64 r2]) ∧ Below w.heap.size w w' := by
  have H := Aside0.mk h
  clear h
  by_cases hl : 0 < a0.size
  · have hat : ∀ h : 0 < a0.size, ((a0[0]'h).toNat : Int) = bt a0 0 := bt_at a0 0
    by_cases hb : bt a0 0 = 45
    · have hb1 : (bt a0 0 == 45) = true := beq_iff_eq.mpr hb
      have hlow : isLow a0 = true := by unfold isLow; exact decide_eq_true ⟨hl, hb⟩
      obtain ⟨t, ht⟩ : ∃ t, t = a0.extract 1 a0.size := ⟨_, rfl⟩
      have hdg : digs a0 = t := by unfold digs; rw [hlow, ht]; rfl
      have hn : num_Parse.num a0 = num_Parse.sized t true := by unfold num_Parse.num; rw [hdg, hlow]
      have HN := Aside0.mk hn
      have hts : t.size = a0.size - 1 := by rw [ht]; simp
      have hex : a0.extract 1 a0.size = t := ht.symm
      have htat : ∀ h : 0 < t.size, ((t[0]'h).toNat : Int) = bt t 0 := bt_at t 0
      clear hlow hdg hn hb ht
      by_cases htz : t.size = 0
      · obtain ⟨rfl, rfl⟩ := num_Parse.of_none H.out (HN.out.trans (num_Parse.none_size (.inl htz)))
        obtain rfl : t = ByteArray.empty := ByteArray.ext (Array.eq_empty_of_size_eq_zero htz)
        have hl1 : (1 : Int) ≤ a0.size := by omega
        clear htat hts htz
        go_enter Try.func32, Try.ntmps32
        go_wp2
        all_goals (go_ret2; exact ⟨rfl, Below.refl _ _⟩)
      · have htne : ¬ t = ByteArray.empty := fun e => htz (by rw [e]; rfl)
        have hl1 : (1 : Int) ≤ a0.size := by omega
        have hs0 : ((t.size : Int) == 0) = false := beq_eq_false_iff_ne.mpr (by omega)
        have htl : 0 < t.size := by omega
        by_cases hbig : 19 < t.size
        · obtain ⟨rfl, rfl⟩ := num_Parse.of_none H.out (HN.out.trans (num_Parse.none_size (.inr (.inl hbig))))
          clear hts htz
          go_enter Try.func32, Try.ntmps32
          go_wp2
          all_goals (go_ret2; exact ⟨rfl, Below.refl _ _⟩)
        · by_cases hz : bt t 0 = 48
          · obtain ⟨rfl, rfl⟩ := num_Parse.of_none H.out (HN.out.trans (num_Parse.none_size (.inr (.inr ⟨hz, .inr rfl⟩))))
            have hz3 : (bt t 0 == 48) = true := beq_iff_eq.mpr hz
            clear hts htz hz
            go_enter Try.func32, Try.ntmps32
            go_wp2
            all_goals (go_ret2; exact ⟨rfl, Below.refl _ _⟩)
          · have hsz : ¬ num_Parse.Bad t true := by
              unfold num_Parse.Bad
              intro h
              rcases h with h | h | h
              · omega
              · omega
              · exact hz h.1
            have HZ := Aside0.mk hsz
            have HZ0 := Aside0.mk hz
            have hz4 : (bt t 0 == 48) = false := beq_eq_false_iff_ne.mpr hz
            have hs1 : (t.size : Int) ≤ 19 := by omega
            have hle : t.size ≤ 9223372036854775807 := by omega
            clear hsz hz hbig hts htz
            go_enter Try.func32, Try.ntmps32
            go_wp2
            all_goals (first | (exfalso; omega) | skip)
            go_loopw [6] (fun u w' => ∃ (pos : Nat), w' = w.iter t pos ∧ pos ≤ t.size ∧ u = .int .u64 (dv t pos) ∧ Aside0 (DigsOk t pos)) (fun _ w' => t.size - w'.iterPos w.heap.size)
            case atStart => exact ⟨0, rfl, Nat.zero_le _, rfl, ⟨fun i hi => by omega⟩⟩
            case round =>
              obtain ⟨pos, rfl, hps, rfl, HD⟩ := hrel
              by_cases hp : pos < t.size
              · by_cases ha : bt t pos < 128
                · have hnx := next_bt w t pos hp ha
                  have hb := bt_range t pos
                  have hcap := dv_cap t pos HD.out (by omega)
                  obtain ⟨c, hcc⟩ : ∃ c : Int, c = bt t pos := ⟨_, rfl⟩
                  rw [← hcc] at hnx hb ha
                  have HC := Aside0.mk hcc
                  clear hcc
                  by_cases hd : 48 ≤ c ∧ c ≤ 57
                  · have hD' := digsOk_step HD.out (by rw [← HC.out]; exact hd)
                    have HD' := Aside0.mk hD'
                    have hv : dv t (pos + 1) = dv t pos * 10 + (c - 48) := by rw [HC.out]; rfl
                    have HV := Aside0.mk hv
                    clear hD' hv HD
                    obtain ⟨v, hv⟩ : ∃ v : Int, v = dv t pos := ⟨_, rfl⟩
                    rw [← hv] at hcap HV ⊢
                    clear hv
                    go_wp2
                    go_roundw
                    case rel => exact ⟨pos + 1, rfl, hp, by rw [HV.out], HD'⟩
                    case measure => simp; omega
                  · obtain ⟨rfl, rfl⟩ := num_Parse.of_none H.out (HN.out.trans (num_Parse.none_dig hp (by rw [← HC.out]; omega)))
                    clear HD
                    rcases (show c < 48 ∨ 57 < c by omega) with g | g
                    · clear hd
                      go_wp2
                      all_goals (go_ret2; exact ⟨rfl, below_iter _ _ _⟩)
                    · have g' : 48 ≤ c := by omega
                      clear hd
                      go_wp2
                      all_goals (go_ret2; exact ⟨rfl, below_iter _ _ _⟩)
                · obtain ⟨c, pos', hc1, hc2, hnx⟩ := next_high w t pos hp ha
                  obtain ⟨rfl, rfl⟩ := num_Parse.of_none H.out (HN.out.trans (num_Parse.none_dig hp (by omega)))
                  clear HD
                  have g' : 48 ≤ c := by omega
                  have g : 57 < c := by omega
                  go_wp2
                  all_goals (go_ret2; exact ⟨rfl, below_iter _ _ _⟩)
              · have hnx : ∀ ty, (Instr.next (.pointer (some ⟨w.heap.size, 0, none⟩)) true ty).run Try.prog (w.iter t pos) = _ := fun ty => run_next_end w t pos ty hp
                obtain rfl : pos = t.size := by omega
                have hb0 := dv_bound t t.size HD.out
                have hb1 := dv_pos t t.size HD.out htl HZ0.out
                have hb2 := dv_19 t t.size HD.out (by omega)
                have hsome := num_Parse.some_low HZ.out HD.out
                by_cases ht : dv t t.size ≤ top63 + 1
                · rw [if_pos ht] at hsome
                  obtain ⟨rfl, rfl⟩ := num_Parse.of_some H.out (HN.out.trans hsome)
                  obtain ⟨v, hv⟩ : ∃ v : Int, v = dv t t.size := ⟨_, rfl⟩
                  rw [← hv] at ht hb1 hb2 ⊢
                  have HV := Aside0.mk hv
                  have K1 := neg_small hb1 hb2 ht
                  have K2 := Aside0.mk (neg_back hb1 hb2 ht)
                  clear hv hb0 hsome HD ht hb1 hb2
                  go_wp2
                  go_ret2
                  exact ⟨ret_pair (K2.out.trans (by rw [HV.out])), below_iter _ _ _⟩
                · rw [if_neg ht] at hsome
                  obtain ⟨rfl, rfl⟩ := num_Parse.of_none H.out (HN.out.trans hsome)
                  obtain ⟨v, hv⟩ : ∃ v : Int, v = dv t t.size := ⟨_, rfl⟩
                  rw [← hv] at ht hb1 hb2 ⊢
                  have K1 := neg_big hb1 hb2 ht
                  clear hv hb0 hsome HD ht hb1 hb2
                  go_wp2
                  go_ret2
                  exact ⟨rfl, below_iter _ _ _⟩
    · have hb1 : (bt a0 0 == 45) = false := beq_eq_false_iff_ne.mpr hb
      have hlow : isLow a0 = false := by unfold isLow; exact decide_eq_false (fun h => hb h.2)
      have hdg : digs a0 = a0 := by unfold digs; rw [hlow]; rfl
      have hn : num_Parse.num a0 = num_Parse.sized a0 false := by unfold num_Parse.num; rw [hdg, hlow]
      have HN := Aside0.mk hn
      clear hlow hdg hn
      by_cases hbig : 19 < a0.size
      · obtain ⟨rfl, rfl⟩ := num_Parse.of_none H.out (HN.out.trans (num_Parse.none_size (.inr (.inl hbig))))
        go_enter Try.func32, Try.ntmps32
        go_wp2
        all_goals (go_ret2; exact ⟨rfl, Below.refl _ _⟩)
      · by_cases hz : bt a0 0 = 48 ∧ 1 < a0.size
        · obtain ⟨rfl, rfl⟩ := num_Parse.of_none H.out (HN.out.trans (num_Parse.none_size (.inr (.inr ⟨hz.1, .inl hz.2⟩))))
          obtain ⟨hz1, hz2⟩ := hz
          have hz3 : (bt a0 0 == 48) = true := beq_iff_eq.mpr hz1
          clear hb hz1
          go_enter Try.func32, Try.ntmps32
          go_wp2
          all_goals (go_ret2; exact ⟨rfl, Below.refl _ _⟩)
        · have hsz : ¬ num_Parse.Bad a0 false := by
            unfold num_Parse.Bad
            intro h
            rcases h with h | h | h
            · omega
            · omega
            · rcases h.2 with h2 | h2
              · exact hz ⟨h.1, h2⟩
              · cases h2
          have HZ := Aside0.mk hsz
          have hz4 : (bt a0 0 == 48) = false ∨ (bt a0 0 == 48) = true ∧ a0.size ≤ 1 := by
            by_cases e : bt a0 0 = 48
            · exact .inr ⟨beq_iff_eq.mpr e, by omega⟩
            · exact .inl (beq_eq_false_iff_ne.mpr e)
          have hs0 : ((a0.size : Int) == 0) = false := beq_eq_false_iff_ne.mpr (by omega)
          have hs1 : (a0.size : Int) ≤ 19 := by omega
          have hne : ¬ a0 = ByteArray.empty := fun e => by rw [e] at hl; exact absurd hl (by decide)
          have hle : a0.size ≤ 9223372036854775807 := by omega
          clear hsz hz hb hbig
          rcases hz4 with hz4 | ⟨hz4, hz5⟩
          all_goals
            go_enter Try.func32, Try.ntmps32
            go_wp2
            all_goals (first | (exfalso; omega) | skip)
            go_loopw [6] (fun u w' => ∃ (pos : Nat), w' = w.iter a0 pos ∧ pos ≤ a0.size ∧ u = .int .u64 (dv a0 pos) ∧ Aside0 (DigsOk a0 pos)) (fun _ w' => a0.size - w'.iterPos w.heap.size)
            case atStart => exact ⟨0, rfl, Nat.zero_le _, rfl, ⟨fun i hi => by omega⟩⟩
            case round =>
              obtain ⟨pos, rfl, hps, rfl, HD⟩ := hrel
              by_cases hp : pos < a0.size
              · by_cases ha : bt a0 pos < 128
                · have hnx := next_bt w a0 pos hp ha
                  have hb := bt_range a0 pos
                  have hcap := dv_cap a0 pos HD.out (by omega)
                  obtain ⟨c, hcc⟩ : ∃ c : Int, c = bt a0 pos := ⟨_, rfl⟩
                  rw [← hcc] at hnx hb ha
                  have HC := Aside0.mk hcc
                  clear hcc
                  by_cases hd : 48 ≤ c ∧ c ≤ 57
                  · have hD' := digsOk_step HD.out (by rw [← HC.out]; exact hd)
                    have HD' := Aside0.mk hD'
                    have hv : dv a0 (pos + 1) = dv a0 pos * 10 + (c - 48) := by rw [HC.out]; rfl
                    have HV := Aside0.mk hv
                    clear hD' hv HD
                    obtain ⟨v, hv⟩ : ∃ v : Int, v = dv a0 pos := ⟨_, rfl⟩
                    rw [← hv] at hcap HV ⊢
                    clear hv
                    go_wp2
                    go_roundw
                    case rel => exact ⟨pos + 1, rfl, hp, by rw [HV.out], HD'⟩
                    case measure => simp; omega
                  · obtain ⟨rfl, rfl⟩ := num_Parse.of_none H.out (HN.out.trans (num_Parse.none_dig hp (by rw [← HC.out]; omega)))
                    clear HD
                    rcases (show c < 48 ∨ 57 < c by omega) with g | g
                    · clear hd
                      go_wp2
                      all_goals (go_ret2; exact ⟨rfl, below_iter _ _ _⟩)
                    · have g' : 48 ≤ c := by omega
                      clear hd
                      go_wp2
                      all_goals (go_ret2; exact ⟨rfl, below_iter _ _ _⟩)
                · obtain ⟨c, pos', hc1, hc2, hnx⟩ := next_high w a0 pos hp ha
                  obtain ⟨rfl, rfl⟩ := num_Parse.of_none H.out (HN.out.trans (num_Parse.none_dig hp (by omega)))
                  clear HD
                  have g' : 48 ≤ c := by omega
                  have g : 57 < c := by omega
                  go_wp2
                  all_goals (go_ret2; exact ⟨rfl, below_iter _ _ _⟩)
              · have hnx : ∀ ty, (Instr.next (.pointer (some ⟨w.heap.size, 0, none⟩)) true ty).run Try.prog (w.iter a0 pos) = _ := fun ty => run_next_end w a0 pos ty hp
                obtain rfl : pos = a0.size := by omega
                have hb0 := dv_bound a0 a0.size HD.out
                have hsome := num_Parse.some_up HZ.out HD.out
                by_cases ht : dv a0 a0.size ≤ top63
                · rw [if_pos ht] at hsome
                  obtain ⟨e1, rfl⟩ := num_Parse.of_some H.out (HN.out.trans hsome)
                  have hb1 := hb0.1
                  rw [← e1] at ht hb1 ⊢
                  clear e1 hb0 hsome HD
                  unfold top63 at ht
                  go_wp2
                  all_goals (go_ret2; exact ⟨rfl, below_iter _ _ _⟩)
                · rw [if_neg ht] at hsome
                  obtain ⟨rfl, rfl⟩ := num_Parse.of_none H.out (HN.out.trans hsome)
                  have hb1 := hb0.1
                  obtain ⟨v, hv⟩ : ∃ v : Int, v = dv a0 a0.size := ⟨_, rfl⟩
                  rw [← hv] at ht hb1 ⊢
                  clear hv hb0 hsome HD
                  unfold top63 at ht
                  go_wp2
                  all_goals (go_ret2; exact ⟨rfl, below_iter _ _ _⟩)
  · obtain rfl : a0 = ByteArray.empty := by
      have : a0.size = 0 := by omega
      exact ByteArray.ext (Array.eq_empty_of_size_eq_zero this)
    have hn : num_Parse.num ByteArray.empty = none := by decide
    obtain ⟨rfl, rfl⟩ := num_Parse.of_none H.out hn
    go_enter Try.func32, Try.ntmps32
    go_wp2
    all_goals (go_ret2; exact ⟨rfl, Below.refl _ _⟩)

end Go.Proofs.Ytolacdlobopoiaa.Num
