/- The table that stands for one that is not good: env.good; and which instructions only move: ins.Moves, walked. Conditions: a table has 24 places. -/
import Derived.Test.YtolacdlobopoiaaNum0
import Derived.Test.YtolacdlobopoiaaEnvB
namespace Go.Proofs.Ytolacdlobopoiaa.Num
open Go.RowKit Go.Proofs.YtolacdlobopoiaaW.PrintWords Go.Proofs.YtolacdlobopoiaaW.PrintLast Go.Proofs.YtolacdlobopoiaaW.PrintMore
attribute [local go_sem] max2_int min2_int max_two min_two max_three min_three max_four min_four   -- for this text's walks alone
set_option linter.unusedVariables false
set_option linter.unusedSimpArgs false

theorem goodT_of {T : List Sr} (h : goodB T = true) : goodT T = T := by unfold goodT; rw [if_pos h]
theorem goodT_not {T : List Sr} (h : goodB T = false) : goodT T = first := by unfold goodT; rw [if_neg (by rw [h]; decide)]
theorem goodT_len {T : List Sr} (h : T.length = 24) : (goodT T).length = 24 := by
  unfold goodT
  split
  · exact h
  · exact first_len
theorem tab_size {T : List Sr} (h : T.length = 24) : (Try.prog.info? 57).map (·.size) = some (tcells T).size := by rw [tcells_size, h]; exact info57
/-- Two blocks laid one behind the other, and a call behind them: they are as they were. -/
theorem two_after {w w1 : World} {A B : Obj} (hb : Below ((w.alloc A).alloc B).heap.size ((w.alloc A).alloc B) w1) :
    w1.heap[w.heap.size + 1]? = some B ∧ w1.heap[w.heap.size]? = some A ∧ Below w.heap.size w w1 := by
  have hs : ((w.alloc A).alloc B).heap.size = w.heap.size + 2 := by simp
  refine ⟨(hb.block _ (by omega)).trans (heap_alloc2_new w A B), (hb.block _ (by omega)).trans (heap_alloc2_old w A B), below_step (below_alloc (below_alloc (Below.refl _ _) _) _) hb⟩
set_option maxHeartbeats 8000000 in
set_option maxRecDepth 100000 in
theorem env_good (T : List Sr) (hT : T.length = 24) (w : World) : Calls Try.prog 52 #[.agg (tcells T)] w fun e w' => e = .returned (.agg (tcells (goodT T))) ∧ Below w.heap.size w w' := by
  have HL := Aside0.mk hT
  have hG := env_Good T hT
  clear hT
  obtain ⟨R, hR⟩ : ∃ R, R = goodT T := ⟨_, rfl⟩
  rw [← hR]
  have HR := Aside0.mk hR
  clear hR
  cases hg : goodB T with
  | true =>
    obtain rfl : R = T := HR.out.trans (goodT_of hg)
    rw [hg] at hG
    have HM := Aside0.mk hG
    clear hG hg
    go_enter Try.func52, Try.ntmps52
    go_wp2_with (first
        | ((with_reducible refine gate_dst (N := 3) rfl ?_); refine wpList_load_row rfl 57 _ rfl w.heap.size rfl 57 (tcells R) (0, 0) _ (heap_alloc2_old w _ _) Try.underlying57 rfl (tab_size HL.out) ?_)
        | (go_at_call 51; refine (HM.out _).mono ?_; rintro e w1 ⟨rfl, hb⟩; obtain ⟨hr, ht, hb2⟩ := two_after hb; have HR1 := Aside0.mk hr; have HT1 := Aside0.mk ht; have HB := Aside0.mk hb2; clear hr ht hb hb2)
        | ((with_reducible refine gate_dst (N := 5) rfl ?_); refine wpList_load_row rfl 57 _ rfl w.heap.size rfl 57 (tcells R) (0, 0) _ HT1.out Try.underlying57 rfl (tab_size HL.out) ?_)
        | ((with_reducible refine gate_store (t := 57) (p := 2) rfl ?_); refine wpList_store_row rfl 57 _ _ rfl (w.heap.size + 1) (tcells R) rfl rfl 57 (tcells noes) HR1.out (tab_size HL.out) (by rw [tcells_size, tcells_size, HL.out]; rfl) (tcells_one R) ?_))
    have hres : (w1.setRow (w.heap.size + 1) (tcells R)).heap[w.heap.size + 1]? = some (.cells (tcells R) 57 (0, 0)) := setRow_heap w1 (w.heap.size + 1) _ _ 57 _ HR1.out
    exact bodyPost_ret (v := .agg (tcells R)) (results_cell_row rfl _ _ (w.heap.size + 1) 57 (tcells R) (0, 0) _ rfl hres Try.underlying57 rfl (tab_size HL.out)) rfl ⟨rfl, below_setRow HB.out (by omega) _⟩
  | false =>
    obtain rfl : R = first := HR.out.trans (goodT_not hg)
    rw [hg] at hG
    have HM := Aside0.mk hG
    clear hG hg
    go_enter Try.func52, Try.ntmps52
    go_wp2_with (first
        | ((with_reducible refine gate_dst (N := 3) rfl ?_); refine wpList_load_row rfl 57 _ rfl w.heap.size rfl 57 (tcells T) (0, 0) _ (heap_alloc2_old w _ _) Try.underlying57 rfl (tab_size HL.out) ?_)
        | (go_at_call 51; refine (HM.out _).mono ?_; rintro e w1 ⟨rfl, hb⟩; obtain ⟨hr, _, hb2⟩ := two_after hb; have HR1 := Aside0.mk hr; have HB := Aside0.mk hb2; clear hr hb hb2)
        | (go_at_call 40; refine (env_New _).mono ?_; rintro e w2 ⟨rfl, hb⟩; have HR2 := Aside0.mk ((hb.block _ (blk_lt HR1.out)).trans HR1.out); have HB2 := Aside0.mk (below_step HB.out hb); clear hb)
        | ((with_reducible refine gate_store (t := 57) (p := 2) rfl ?_); refine wpList_store_row rfl 57 _ _ rfl (w.heap.size + 1) (tcells first) rfl rfl 57 (tcells noes) HR2.out info57 rfl (tcells_one first) ?_))
    have hres : (w2.setRow (w.heap.size + 1) (tcells first)).heap[w.heap.size + 1]? = some (.cells (tcells first) 57 (0, 0)) := setRow_heap w2 (w.heap.size + 1) _ _ 57 _ HR2.out
    exact bodyPost_ret (v := .agg (tcells first)) (results_cell_row rfl _ _ (w.heap.size + 1) 57 (tcells first) (0, 0) _ rfl hres Try.underlying57 rfl info57) rfl ⟨rfl, below_setRow HB2.out (by omega) _⟩
/-- An instruction. -/
structure In where
  op : Int
  d : Int
  a : Int
  b : Int
  n : Int
  jt : Int
def In.cells (x : In) : Array Value := #[.int .i64 x.op, .int .i64 x.d, .int .i64 x.a, .int .i64 x.b, .int .i64 x.n, .int .i64 x.jt]
def In.moves (x : In) : Bool := decide (x.op = 1 ∨ x.op = 2 ∨ x.op = 3 ∨ x.op = 16)
set_option maxHeartbeats 8000000 in
set_option maxRecDepth 100000 in
theorem ins_Moves (x : In) (w : World) : Calls Try.prog 53 #[.agg x.cells] w fun e w' => e = .returned (.bool x.moves) ∧ Below w.heap.size w w' := by
  obtain ⟨op, d, a, b, n, jt⟩ := x
  unfold In.cells
  obtain ⟨r, hr⟩ : ∃ r, r = In.moves ⟨op, d, a, b, n, jt⟩ := ⟨_, rfl⟩
  rw [← hr]
  have HR := Aside0.mk hr
  clear hr
  have hcase : (op == 1) = true ∨ ((op == 1) = false ∧ (op == 2) = true) ∨ ((op == 1) = false ∧ (op == 2) = false ∧ (op == 3) = true) ∨ ((op == 1) = false ∧ (op == 2) = false ∧ (op == 3) = false) := by
    cases (op == 1) <;> cases (op == 2) <;> cases (op == 3) <;> simp
  rcases hcase with h1 | ⟨h1, h2⟩ | ⟨h1, h2, h3⟩ | ⟨h1, h2, h3⟩
  · obtain rfl : r = true := HR.out.trans (decide_eq_true (.inl (by simpa using h1)))
    go_enter Try.func53, Try.ntmps53
    go_wp2
    go_ret
    exact ⟨rfl, below_alloc (Below.refl _ _) _⟩
  · obtain rfl : r = true := HR.out.trans (decide_eq_true (.inr (.inl (by simpa using h2))))
    go_enter Try.func53, Try.ntmps53
    go_wp2
    go_ret
    exact ⟨rfl, below_alloc (Below.refl _ _) _⟩
  · obtain rfl : r = true := HR.out.trans (decide_eq_true (.inr (.inr (.inl (by simpa using h3)))))
    go_enter Try.func53, Try.ntmps53
    go_wp2
    go_ret
    exact ⟨rfl, below_alloc (Below.refl _ _) _⟩
  · have hm : r = (op == 16) := by
      rw [HR.out]
      unfold In.moves
      simp only [beq_eq_false_iff_ne] at h1 h2 h3
      rw [Bool.eq_iff_iff]
      simp [h1, h2, h3]
    have HM := Aside0.mk hm
    clear hm
    go_enter Try.func53, Try.ntmps53
    go_wp2
    go_ret
    exact ⟨ret_bool HM.out.symm, below_alloc (Below.refl _ _) _⟩

end Go.Proofs.Ytolacdlobopoiaa.Num
