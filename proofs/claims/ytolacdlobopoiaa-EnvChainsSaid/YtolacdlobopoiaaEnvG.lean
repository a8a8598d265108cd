/- env: the second table behind the first -/
import Derived.Test.YtolacdlobopoiaaNum0
import Derived.Test.YtolacdlobopoiaaEnvE
namespace Go.Proofs.Ytolacdlobopoiaa.Num
open Go.RowKit Go.Proofs.YtolacdlobopoiaaW.PrintWords Go.Proofs.YtolacdlobopoiaaW.PrintLast Go.Proofs.YtolacdlobopoiaaW.PrintMore
attribute [local go_sem] max2_int min2_int max_two min_two max_three min_three max_four min_four   -- for this text's walks alone
set_option linter.unusedVariables false
set_option linter.unusedSimpArgs false

/-! ### Steps of such a region -/
section
variable {P : Program} {ops : Array Oper} {aF : Act}
theorem step_run {o : Oper} {w w' : World} {G : World → Prop} {v : Value} (hgd : Region.wanted o (yielded ops aF.tmps) = true) (hrun : (execOp aF.eval o).run P w = .ok (.value v) w') (hput : aF.put o.dst v = aF) (hG : G w') : Step P ops aF o w G := by
  refine .inr ⟨hgd, ?_⟩
  rw [hrun]
  exact ⟨hput, hG⟩
theorem step_load_row {o : Oper} {w : World} {G : World → Prop} (hgd : Region.wanted o (yielded ops aF.tmps) = true) (ty : TypeId) (x : Operand) (ho : o.op = .load ty x)
    (g : Nat) (hx : aF.eval x = .pointer (some ⟨g, 0, none⟩)) (t : TypeId) (cs : Array Value) (fr : Nat × Nat) (d : TypeDesc) (hg : w.heap[g]? = some (.cells cs t fr))
    (hu : P.underlying ty = some d) (hd : (match d with | .struct _ | .array _ _ => true | _ => false) = true) (hi : (P.info? ty).map (·.size) = some cs.size)
    (hput : aF.put o.dst (.agg cs) = aF) (hG : G w) : Step P ops aF o w G := by
  refine .inr ⟨hgd, ?_⟩
  unfold execOp
  simp only [ho, hx, Instr.loadAt, Instr.sureAddr, Sem.run_bind, Sem.run_pure, Result.andThen_ok, run_loadVar_row w g t ty cs fr d hg hu hd hi]
  exact ⟨hput, hG⟩
theorem step_store_row {o : Oper} {w : World} {G : World → Prop} (hgd : Region.wanted o (yielded ops aF.tmps) = true) (ty : TypeId) (x y : Operand) (ho : o.op = .store ty x y)
    (g : Nat) (cells : Array Value) (hx : aF.eval x = .pointer (some ⟨g, 0, none⟩)) (hy : aF.eval y = .agg cells)
    (t : TypeId) (old : Array Value) (hg : w.heap[g]? = some (.cells old t (0, 0))) (hi : (P.info? ty).map (·.size) = some cells.size)
    (hold : old.size = cells.size) (h1 : cells.all (·.oneCell') = true)
    (hput : aF.put o.dst undef = aF) (hG : G (w.setRow g cells)) : Step P ops aF o w G := by
  refine .inr ⟨hgd, ?_⟩
  unfold execOp
  simp only [ho, hx, hy, Instr.storeAt, Instr.sureAddr, Sem.run_bind, Sem.run_pure, Result.andThen_ok, run_storeVar_row w g t ty old cells hg hi hold h1]
  exact ⟨hput, hG⟩
theorem step_call {o : Oper} {w : World} {G : World → Prop} (hgd : Region.wanted o (yielded ops aF.tmps) = true) {f : FuncId} {fn : Func} {xs : Array Operand} {ts : Array TypeId} (hf : P.funcs[f]? = some fn) (hname : (fn.name == "runtime.NumGoroutine") = false) (hb : fn.body.isSome = true) (args : Array Value)
    (hop : o.op = .call { callee := .value (.func f), args := xs, argTypes := ts }) (hargs : xs.toList.map aF.eval = args.toList)
    (h : Calls P f args w fun e w' => ∃ v, e = .returned v ∧ aF.put o.dst v = aF ∧ G w') : Step P ops aF o w G := by
  refine .inr ⟨hgd, ?_⟩
  have hargs' : xs.map aF.eval = args := by apply Array.toList_inj.1; simpa using hargs
  have he := enters_ hf hname hb args w
  have hrun : (execOp aF.eval o).run P w = .ok (.enter f args) w := by
    unfold execOp
    simp [hop, resolve, Deferred.ofValue, invoke, Act.eval, hargs', he]
  rw [hrun]
  exact h
/-- What waits for an operation that comes up now has not come up. -/
theorem not_yet {L : Array Bool} {i j : Nat} (hc : ListedClosed .any ops L) (hi : i ∈ Region.ready .any ops L) (hr : Region.reachB .any ops i ops.size j = true) : L.getD j false = false := by
  obtain ⟨h1, o, ho, _⟩ := mem_ready.1 hi
  cases hg : L.getD j false with
  | false => rfl
  | true =>
    have h2 := Region.reach_listed hc ops.size j hr hg
    by_cases hlt : i < L.size
    · simp [hlt] at h1 h2
      rw [h1] at h2
      cases h2
    · simp [Array.getElem?_eq_none (Nat.le_of_not_lt hlt)] at h2
theorem listed_at {L : Array Bool} {i : Nat} (hi : i ∈ Region.ready .any ops L) (hL : i < L.size) : (L.setIfInBounds i true).getD i false = true := by
  simp [hL]
end
theorem below_drew {B : Nat} {w W : World} (h : Below B w W) : Below B w W.drew := ⟨h.os, h.tape, h.output, h.size, h.block⟩
def thenG (G H : List Sr) : List Sr := H.map fun s => match s with | .was l => srAt G l | s => s
theorem goodB_at {T : List Sr} (h : goodB T = true) (i : Nat) (hi : i < T.length) : (T[i]).ok = true := List.all_eq_true.1 h _ (List.getElem_mem hi)
def thenT (A B : List Sr) : List Sr := thenG (goodT A) (goodT B)
theorem thenG_len (G H : List Sr) : (thenG G H).length = H.length := by simp [thenG]
def thenTo (G H : List Sr) (i : Nat) : List Sr := (thenG G H).take i ++ H.drop i
theorem thenTo_zero (G H : List Sr) : thenTo G H 0 = H := by simp [thenTo]
theorem thenTo_all (G H : List Sr) : thenTo G H H.length = thenG G H := by
  unfold thenTo
  rw [List.drop_length, List.append_nil, List.take_of_length_le (by rw [thenG_len]; omega)]
theorem thenTo_len (G H : List Sr) (i : Nat) (h : i ≤ H.length) : (thenTo G H i).length = H.length := by
  simp [thenTo, thenG_len]
  omega
theorem thenTo_set (G H : List Sr) (i : Nat) (h : i < H.length) : (thenTo G H i).set i ((thenG G H)[i]'(by rw [thenG_len]; exact h)) = thenTo G H (i + 1) := by
  have hl := thenG_len G H
  unfold thenTo
  rw [List.set_append_right _ _ (by simp [hl]; omega)]
  have h1 : i - (List.take i (thenG G H)).length = 0 := by simp [hl]; omega
  rw [h1, List.drop_eq_getElem_cons h, List.set_cons_zero, List.take_succ_eq_append_getElem (by rw [hl]; exact h), List.append_assoc]
  rfl
theorem thenTo_at (G H : List Sr) (i : Nat) (h : i < H.length) : (thenTo G H i)[i]? = some H[i] := by
  have hl := thenG_len G H
  unfold thenTo
  rw [List.getElem?_append_right (by simp [hl]; omega)]
  have h1 : i - (List.take i (thenG G H)).length = 0 := by simp [hl]; omega
  rw [h1]
  simp [h]
theorem thenTo_same (G H : List Sr) (i : Nat) (h : i < H.length) (he : (thenG G H)[i]'(by rw [thenG_len]; exact h) = H[i]) : thenTo G H (i + 1) = thenTo G H i := by
  rw [← thenTo_set G H i h, he]
  apply List.ext_getElem?
  intro j
  by_cases hj : i = j
  · subst hj
    rw [List.getElem?_set_self (by rw [thenTo_len G H i (by omega)]; exact h), thenTo_at G H i h]
  · rw [List.getElem?_set_ne hj]
def ThenSt (A B GA GB : List Sr) (w : World) (L : Array Bool) (w' : World) : Prop :=
  L.size = 6 ∧ Below w.heap.size w w' ∧ IsTab w' w.heap.size (if L.getD 4 false = true then GA else A) ∧ IsTab w' (w.heap.size + 1) (if L.getD 5 false = true then GB else B) ∧ IsTab w' (w.heap.size + 2) noes
theorem ThenSt.step {A B GA GB : List Sr} {w w' w2 : World} {L : Array Bool} {i : Nat} (h : ThenSt A B GA GB w L w') (h4 : i ≠ 4) (h5 : i ≠ 5) (hb : Below w'.heap.size w' w2) : ThenSt A B GA GB w (L.setIfInBounds i true) w2 := by
  obtain ⟨hL, h1, h2, h3, h6⟩ := h
  refine ⟨by simpa using hL, below_step h1 hb, ?_, ?_, h6.below hb⟩
  · rw [getD_set_ne false h4]; exact h2.below hb
  · rw [getD_set_ne false h5]; exact h3.below hb
theorem ThenSt.step4 {A B GA GB : List Sr} {w w' : World} {L : Array Bool} (h : ThenSt A B GA GB w L w') : ThenSt A B GA GB w (L.setIfInBounds 4 true) (w'.setRow w.heap.size (tcells GA)) := by
  obtain ⟨hL, h1, h2, h3, h6⟩ := h
  refine ⟨by simpa using hL, below_setRow h1 (Nat.le_refl _) _, ?_, ?_, h6.row (by omega) _⟩
  · have : (L.setIfInBounds 4 true).getD 4 false = true := by simp [hL]
    rw [if_pos this]; exact h2.laid
  · rw [getD_set_ne false (by decide)]; exact h3.row (by omega) _
theorem ThenSt.step5 {A B GA GB : List Sr} {w w' : World} {L : Array Bool} (h : ThenSt A B GA GB w L w') : ThenSt A B GA GB w (L.setIfInBounds 5 true) (w'.setRow (w.heap.size + 1) (tcells GB)) := by
  obtain ⟨hL, h1, h2, h3, h6⟩ := h
  refine ⟨by simpa using hL, below_setRow h1 (by omega) _, ?_, ?_, h6.row (by omega) _⟩
  · rw [getD_set_ne false (by decide)]; exact h2.row (by omega) _
  · have : (L.setIfInBounds 5 true).getD 5 false = true := by simp [hL]
    rw [if_pos this]; exact h3.laid
set_option maxHeartbeats 1000000 in
set_option maxRecDepth 100000 in
theorem then_of (A B GA GB : List Sr) (hA : A.length = 24) (hB : B.length = 24) (hGA : GA.length = 24) (hGB : GB.length = 24) (gA : ∀ w, Calls Try.prog 52 #[.agg (tcells A)] w fun e w' => e = .returned (.agg (tcells GA)) ∧ Below w.heap.size w w')
    (gB : ∀ w, Calls Try.prog 52 #[.agg (tcells B)] w fun e w' => e = .returned (.agg (tcells GB)) ∧ Below w.heap.size w w') (R : List Sr) (hR : R = thenG GA GB) (hok : goodB GB = true) (w : World) : Calls Try.prog 39 #[.agg (tcells A), .agg (tcells B)] w fun e w' => e = .returned (.agg (tcells R)) ∧ Below w.heap.size w w' := by
  go_enter Try.func39, Try.ntmps39
  go_upto_region 1 with fail
  refine region_det [(9, .agg (tcells A)), (10, .agg (tcells GA)), (11, .agg (tcells B)), (12, .agg (tcells GB))] (ThenSt A B GA GB w) (by kernel_rfl) (by kernel_rfl) (by kernel_rfl) ?_ ?_ ?_
  · intro i o ho L W hc hr hs
    have h0 := hs
    obtain ⟨hL, h1, h2, h3, h6⟩ := hs
    rcases i with _ | _ | _ | _ | _ | _ | i
    · obtain rfl := Option.some.inj ho
      have hn := not_yet (j := 4) hc hr (by kernel_rfl)
      rw [hn, if_neg (by decide)] at h2
      exact step_load_row rfl 57 _ rfl w.heap.size rfl 57 (tcells A) (0, 0) _ h2 Try.underlying57 rfl (tab_size hA) rfl (h0.step (by decide) (by decide) (Below.refl _ _))
    · obtain rfl := Option.some.inj ho
      exact step_call rfl Try.func52 (by kernel_rfl) rfl #[.agg (tcells A)] rfl rfl ((gA W).mono fun e w' h => ⟨_, h.1, rfl, h0.step (by decide) (by decide) h.2⟩)
    · obtain rfl := Option.some.inj ho
      have hn := not_yet (j := 5) hc hr (by kernel_rfl)
      rw [hn, if_neg (by decide)] at h3
      exact step_load_row rfl 57 _ rfl (w.heap.size + 1) rfl 57 (tcells B) (0, 0) _ h3 Try.underlying57 rfl (tab_size hB) rfl (h0.step (by decide) (by decide) (Below.refl _ _))
    · obtain rfl := Option.some.inj ho
      exact step_call rfl Try.func52 (by kernel_rfl) rfl #[.agg (tcells B)] rfl rfl ((gB W).mono fun e w' h => ⟨_, h.1, rfl, h0.step (by decide) (by decide) h.2⟩)
    · obtain rfl := Option.some.inj ho
      exact step_store_row rfl 57 _ _ rfl w.heap.size (tcells GA) rfl rfl 57 _ h2 (tab_size hGA) (by rw [tcells_size, tcells_size, hGA]; split <;> assumption) (tcells_one GA) rfl h0.step4
    · obtain rfl := Option.some.inj ho
      exact step_store_row rfl 57 _ _ rfl (w.heap.size + 1) (tcells GB) rfl rfl 57 _ h3 (tab_size hGB) (by rw [tcells_size, tcells_size, hGB]; split <;> assumption) (tcells_one GB) rfl h0.step5
    · exact absurd (Array.getElem?_eq_some_iff.1 ho).1 (by simp)
  · refine ⟨rfl, below_drew (below_alloc (below_alloc (below_alloc (Below.refl _ _) _) _) _), ?_, ?_, ?_⟩
    · exact box3 w _ _ _
    · exact (three_after (w1 := ((w.alloc (.cells (tcells A) 57)).alloc (.cells (tcells B) 57)).alloc (.cells (tcells noes) 57)) (Below.refl _ _)).2.1
    · exact (three_after (w1 := ((w.alloc (.cells (tcells A) 57)).alloc (.cells (tcells B) 57)).alloc (.cells (tcells noes) 57)) (Below.refl _ _)).2.2.1
  · intro L W hall hs
    obtain ⟨hL, h1, h2, h3, h6⟩ := hs
    rw [if_pos (hall 4 (by decide))] at h2
    rw [if_pos (hall 5 (by decide))] at h3
    have H1 := Aside0.mk h1
    have H2 := Aside0.mk h2
    have H3 := Aside0.mk h3
    have H6 := Aside0.mk h6
    clear h1 h2 h3 h6 gA gB hL hall
    have KA := Aside0.mk hGA
    have KB := Aside0.mk hGB
    have HR := Aside0.mk hR
    have HO := Aside0.mk hok
    clear hGA hGB hR hok hA hB
    simp only [putAll]
    go_wp2_with (first
        | ((with_reducible refine gate_dst (N := 13) rfl ?_); refine wpList_load_row rfl 57 _ rfl (w.heap.size + 1) rfl 57 (tcells GB) (0, 0) _ H3.out Try.underlying57 rfl (tab_size KB.out) ?_)
        | ((with_reducible refine gate_store (t := 57) (p := 5) rfl ?_); refine wpList_store_row rfl 57 _ _ rfl W.heap.size (tcells GB) rfl rfl 57 (tcells noes) (heap_alloc_last W _) (tab_size KB.out) (by rw [tcells_size, tcells_size, KB.out]; rfl) (tcells_one GB) ?_; have K1 := Aside0.mk (show IsTab _ W.heap.size GB from IsTab.laid (T := noes) (heap_alloc_last W _)); have K2 := Aside0.mk (IsTab.row (IsTab.below H2.out (below_alloc (Below.refl _ _) (.cells (tcells noes) 57 (0, 0)))) (g' := W.heap.size) (by have := blk_lt H2.out; omega) (tcells GB)); have K3 := Aside0.mk (IsTab.row (IsTab.below H3.out (below_alloc (Below.refl _ _) (.cells (tcells noes) 57 (0, 0)))) (g' := W.heap.size) (by have := blk_lt H3.out; omega) (tcells GB)); have K6 := Aside0.mk (IsTab.row (IsTab.below H6.out (below_alloc (Below.refl _ _) (.cells (tcells noes) 57 (0, 0)))) (g' := W.heap.size) (by have := blk_lt H6.out; omega) (tcells GB)); have KL := Aside0.mk (below_setRow (below_alloc H1.out (.cells (tcells noes) 57 (0, 0))) H1.out.size (tcells GB)))
        | ((with_reducible refine gate_dst (N := 14) rfl ?_); refine wpList_load_row rfl 57 _ rfl (w.heap.size + 1) rfl 57 (tcells GB) (0, 0) _ K3.out Try.underlying57 rfl (tab_size KB.out) ?_))
    go_loopw [15] (fun c wr => ∃ i : Nat, c = .int .i64 i ∧ Aside0 (i ≤ 24 ∧ Below w.heap.size w wr ∧ IsTab wr w.heap.size GA ∧ IsTab wr W.heap.size (thenTo GA GB i) ∧ IsTab wr (w.heap.size + 2) noes)) (fun c _ => 24 - (intOf c).toNat)
    case atStart => exact ⟨0, rfl, ⟨⟨by omega, KL.out, K2.out, by rw [thenTo_zero]; exact K1.out, K6.out⟩⟩⟩
    case round =>
      obtain ⟨i, rfl, HS⟩ := hrel
      obtain ⟨h24, hb, ha, hr, hn⟩ := HS.out
      by_cases hi : i < 24
      · have hix := run_index_tab GB KB.out i (by rw [KB.out]; exact hi)
        have hi' : (i : Int) < 24 := by omega
        have hgs := goodB_at HO.out i (by rw [KB.out]; exact hi)
        have hth : (thenG GA GB)[i]'(by rw [thenG_len, KB.out]; exact hi) = (match GB[i]'(by rw [KB.out]; exact hi) with | .was l => srAt GA l | s => s) := by simp [thenG]
        obtain ⟨s, hs⟩ : ∃ s, s = GB[i]'(by rw [KB.out]; exact hi) := ⟨_, rfl⟩
        rw [← hs] at hix hgs hth
        cases s with
        | no => exact absurd hgs (by decide)
        | is m =>
          have hsame := thenTo_same GA GB i (by rw [KB.out]; exact hi) (by rw [hth, ← hs])
          have HSame := Aside0.mk hsame
          have HB := Aside0.mk hb
          have HA := Aside0.mk ha
          have HRt := Aside0.mk hr
          have HN := Aside0.mk hn
          clear hsame hb ha hr hn hth hs hgs HS
          have t2 := ta_is_was
          simp only [Sr.v] at hix
          go_wp2
          go_roundw
          case rel => exact ⟨i + 1, by go_num, ⟨⟨by omega, HB.out, HA.out, by rw [HSame.out]; exact HRt.out, HN.out⟩⟩⟩
          case measure => simp [intOf]; omega
        | was l =>
          have hl : 0 ≤ l ∧ l ≤ 23 := of_decide_eq_true hgs
          have hset := thenTo_set GA GB i (by rw [KB.out]; exact hi)
          rw [hth] at hset
          have HSet := Aside0.mk hset
          have HB := Aside0.mk hb
          have HA := Aside0.mk ha
          have HRt := Aside0.mk hr
          have HN := Aside0.mk hn
          clear hset hb ha hr hn hth hs hgs HS
          have t1 := ta_was
          have q1 : l < 24 := Int.lt_add_one_of_le hl.2
          have q3 := hl.1
          have c1 : ∀ o, (wr.alloc o).cell? ⟨w.heap.size, l.toNat, none⟩ = some (srAt GA l).v := fun o => ((HA.out.below (below_alloc (Below.refl _ _) o)).at_ KA.out hl).1
          have c2 : ∀ o, (store ⟨W.heap.size, i, none⟩ (srAt GA l).v).run Try.prog (wr.alloc o) = .ok () ((wr.alloc o).setCell ⟨W.heap.size, i, none⟩ (srAt GA l).v) := fun o =>
            store_sr _ _ _ _ ((HRt.out.below (below_alloc (Below.refl _ _) o)).cell i (by rw [thenTo_len _ _ _ (by rw [KB.out]; omega), KB.out]; exact hi)) ((HRt.out.below (below_alloc (Below.refl _ _) o)).free i)
          have o2 := (srAt GA l).own
          unfold Value.cells at o2
          simp only [Sr.v] at hix
          go_wp2
          go_roundw
          case rel =>
            refine ⟨i + 1, by go_num, ⟨⟨by omega, ?_, ?_, ?_, ?_⟩⟩⟩
            · exact (below_alloc HB.out _).setCell H1.out.size _
            · exact (HA.out.below (below_alloc (Below.refl _ _) _)).far (by have := blk_lt H2.out; simp; omega) _
            · rw [← HSet.out]; exact (HRt.out.below (below_alloc (Below.refl _ _) _)).set i (srAt GA l)
            · exact (HN.out.below (below_alloc (Below.refl _ _) _)).far (by have := blk_lt H6.out; simp; omega) _
          case measure => simp [intOf]; omega
      · obtain rfl : i = 24 := by omega
        have hall := thenTo_all GA GB
        rw [KB.out, ← HR.out] at hall
        rw [hall] at hr
        have LR : R.length = 24 := by rw [HR.out, thenG_len, KB.out]
        have KR := Aside0.mk LR
        have HB := Aside0.mk hb
        have HRt := Aside0.mk hr
        have HN := Aside0.mk hn
        clear hall hb ha hr hn LR HS
        go_wp2_with (first
          | ((with_reducible refine gate_dst (N := 30) rfl ?_); refine wpList_load_row rfl 57 _ rfl W.heap.size rfl 57 (tcells R) (0, 0) _ HRt.out Try.underlying57 rfl (tab_size KR.out) ?_)
          | ((with_reducible refine gate_store (t := 57) (p := 4) rfl ?_); refine wpList_store_row rfl 57 _ _ rfl (w.heap.size + 2) (tcells R) rfl rfl 57 (tcells noes) HN.out (tab_size KR.out) (by rw [tcells_size, tcells_size, KR.out]; rfl) (tcells_one R) ?_))
        exact bodyPost_ret (v := .agg (tcells R)) (results_cell_row rfl _ _ (w.heap.size + 2) 57 (tcells R) (0, 0) _ rfl HN.out.laid Try.underlying57 rfl (tab_size KR.out)) rfl ⟨rfl, below_setRow HB.out (by omega) _⟩

theorem goodB_first : goodB first = true := by decide
theorem goodT_good (T : List Sr) : goodB (goodT T) = true := by
  unfold goodT
  split
  · assumption
  · exact goodB_first
theorem thenT_len (A B : List Sr) (hB : B.length = 24) : (thenT A B).length = 24 := by unfold thenT; rw [thenG_len]; exact goodT_len hB
theorem env_Then (A B : List Sr) (hA : A.length = 24) (hB : B.length = 24) (w : World) : Calls Try.prog 39 #[.agg (tcells A), .agg (tcells B)] w fun e w' => e = .returned (.agg (tcells (thenT A B))) ∧ Below w.heap.size w w' :=
  then_of A B (goodT A) (goodT B) hA hB (goodT_len hA) (goodT_len hB) (env_good A hA) (env_good B hB) _ rfl (goodT_good B) w

end Go.Proofs.Ytolacdlobopoiaa.Num
