/- env: the walk of EnvOther -/
import Derived.Test.YtolacdlobopoiaaNum0
import Derived.Test.YtolacdlobopoiaaEnvI
namespace Go.Proofs.Ytolacdlobopoiaa.Num
open Go.RowKit Go.Proofs.YtolacdlobopoiaaW.PrintWords Go.Proofs.YtolacdlobopoiaaW.PrintLast Go.Proofs.YtolacdlobopoiaaW.PrintMore
attribute [local go_sem] max2_int min2_int max_two min_two max_three min_three max_four min_four   -- for this text's walks alone
set_option linter.unusedVariables false
set_option linter.unusedSimpArgs false

theorem region_det3 {P : Program} {ops : Array Oper} {Q : Exit → Act → World → Prop} {id : Nat} {a0 : Act} {w : World} (vals : List (Tmp × Value)) (S : Array Bool → World → Prop) (hm : P.follows .mixedOrders = true) (hd : detB ops = true)
    (hv : (vals.map (·.1)).all (fun t => ops.any fun o => o.dst == some t) = true)
    (h : ∀ aF, putAll a0 vals = aF → (∀ i o, ops[i]? = some o → ∀ L w, ListedClosed .any ops L → i ∈ Region.ready .any ops L → S L w → Step P ops aF o w (S (L.setIfInBounds i true))) ∧
      S (Array.replicate ops.size false) w.drew ∧ (∀ L w', (∀ i, i < ops.size → L.getD i false = true) → S L w' → Q .normal aF w')) : (Code.region id ops true).wp P Q a0 w := by
  obtain ⟨h1, h2, h3⟩ := h _ rfl
  exact region_det vals S hm hd hv h1 h2 h3
/-- An operation that is not wanted. -/
theorem step_off {P : Program} {ops : Array Oper} {aF : Act} {o : Oper} {w : World} {G : World → Prop} (hgd : Region.wanted o (yielded ops aF.tmps) = false) (hput : aF.put o.dst undef = aF) (hG : G w) : Step P ops aF o w G := .inl ⟨hgd, hput, hG⟩
def named (x : In) (i : Int) : Bool := (decide (x.op ≥ 1) && decide (x.op ≤ 3) && (x.d == i)) || ((x.op == 3) && (x.a == i))
theorem other_law (T : List Sr) (hT : T.length = 24) (h : goodB T = true) (x : In) (i : Nat) (hn : named x i = false) : (afterT T x)[i]? = T[i]? := by
  rw [afterT_of h]
  by_cases c : x.moves = true ∧ inR x.d = true ∧ inR x.a = true
  · rw [if_pos c]
    have h1 := inR_at c.2.1
    have h2 := inR_at c.2.2
    unfold named at hn
    simp only [Bool.or_eq_false_iff, Bool.and_eq_false_iff, decide_eq_false_iff_not, beq_eq_false_iff_ne] at hn
    unfold moveT
    by_cases e1 : x.op = 1
    · rw [if_pos e1, List.getElem?_set_ne (by omega)]
    · rw [if_neg e1]
      by_cases e2 : x.op = 2
      · rw [if_pos e2, List.getElem?_set_ne (by omega)]
      · rw [if_neg e2]
        by_cases e3 : x.op = 3
        · rw [if_pos e3, List.getElem?_set_ne (by omega), List.getElem?_set_ne (by omega)]
        · rw [if_neg e3]
  · rw [if_neg c]
theorem run_idx_tab (g i : Nat) (hi : i < 24) (W : World) : (Instr.indexAt 57 (.pointer (some ⟨g, 0, none⟩)) (.int .i64 (i : Int))).run Try.prog W = .ok (.pointer (some ⟨g, i, none⟩)) W := by
  have h0 : (0 : Int) ≤ i := by omega
  have h1 : (i : Int) < 24 := by omega
  simp [Instr.indexAt, asIntOf, run_underlying Try.underlying57, h0, h1, hi, sizeOf55, Result.andThen, Instr.sureAddr, Addr.add]
  intro h
  exact h.symm
theorem run_load_tab (g i : Nat) (s : Sr) (W : World) (hc : W.cell? ⟨g, i, none⟩ = some s.v) : (Instr.loadAt 55 (.pointer (some ⟨g, i, none⟩))).run Try.prog W = .ok s.v W := by
  simp [Instr.loadAt, Instr.sureAddr, loadVar, isAgg55, Result.andThen, hc]
theorem idx_step {aF : Act} {o : Oper} {x y : Operand} (g i : Nat) (ho : o.op = .indexAddr 57 x y) (hx : aF.eval x = .pointer (some ⟨g, 0, none⟩)) (hy : aF.eval y = .int .i64 (i : Int)) (hi : i < 24) (W : World) :
    (execOp aF.eval o).run Try.prog W = .ok (.value (.pointer (some ⟨g, i, none⟩))) W := by
  unfold execOp
  simp only [ho, hx, hy, Sem.run_bind, run_idx_tab g i hi W, Result.andThen_ok, Sem.run_pure]
theorem load_step {aF : Act} {o : Oper} {x : Operand} (g i : Nat) (s : Sr) (ho : o.op = .load 55 x) (hx : aF.eval x = .pointer (some ⟨g, i, none⟩)) (W : World) (hc : W.cell? ⟨g, i, none⟩ = some s.v) :
    (execOp aF.eval o).run Try.prog W = .ok (.value s.v) W := by
  unfold execOp
  simp only [ho, hx, Sem.run_bind, run_load_tab g i s W hc, Result.andThen_ok, Sem.run_pure]
theorem ne_step {aF : Act} {o : Oper} {x y : Operand} {t : TypeId} (s : Sr) (hs : s ≠ .no) (ho : o.op = .binOp .neq 55 x y t) (hx : aF.eval x = s.v) (hy : aF.eval y = s.v) (W : World) :
    (execOp aF.eval o).run Try.prog W = .ok (.value (.bool false)) W := by
  have h2 := ne_sr s s W
  rw [show decide (s = s) = true from decide_eq_true rfl] at h2
  have h1 : (eqGuard .neq 55 x y s.v s.v).run Try.prog W = .ok () W := by
    cases s with
    | no => exact absurd rfl hs
    | was l => simp [eqGuard, Sr.v]
    | is l => simp [eqGuard, Sr.v]
  unfold execOp
  simp only [ho, hx, hy, Sem.run_bind, h1, h2, Result.andThen_ok, Sem.run_pure, Bool.not_true]
set_option maxHeartbeats 1000000 in
set_option maxRecDepth 100000 in
theorem other_of (A0 : Option Addr) (c0 : Nat) (l0 : List Int) (A1 : Option Addr) (c1 : Nat) (l1 : List Int) (x : In) (T O U : List Sr) (lT : T.length = 24) (lU : U.length = 24) (nT : NoNo T) (hEq : ∀ i : Nat, named x i = false → U[i]? = T[i]?)
    (hT : ∀ w, Calls Try.prog 39 #[.agg (tcells first), .agg (tcells O)] w fun e w' => e = .returned (.agg (tcells T)) ∧ Below w.heap.size w w')
    (w : World)
    (hO : ∀ w1, Below w.heap.size w w1 → Calls Try.prog 41 #[.slice A0 l0.length c0, .slice A1 l1.length c1] w1 fun e w' => e = .returned (.agg (tcells O)) ∧ Below w1.heap.size w1 w')
    (hA : ∀ w, Calls Try.prog 42 #[.agg (tcells T), .agg x.cells] w fun e w' => e = .returned (.agg (tcells U)) ∧ Below w.heap.size w w')
    : Calls Try.prog 17 #[.slice A0 l0.length c0, .slice A1 l1.length c1, .agg x.cells] w fun e w' => e = .returned (.bool true) ∧ Below w.heap.size w w' := by
  have HT := Aside0.mk hT
  have HO := Aside0.mk hO
  have HA := Aside0.mk hA
  have HE := Aside0.mk hEq
  have LT := Aside0.mk (tab_size lT)
  have LU := Aside0.mk (tab_size lU)
  have NT : Aside0 ((tcells noes).size = (tcells T).size) := ⟨by rw [tcells_size, tcells_size, lT]; rfl⟩
  have NU : Aside0 ((tcells noes).size = (tcells U).size) := ⟨by rw [tcells_size, tcells_size, lU]; rfl⟩
  have QT := Aside0.mk lT
  have QU := Aside0.mk lU
  have PT := Aside0.mk nT
  clear hT hO hA hEq lT lU nT
  go_enter Try.func17, Try.ntmps17
  go_wp2_with (first
      | (go_at_call 40; refine (env_New _).mono ?_; rintro e w1 ⟨rfl, hb⟩; have HI1 := Aside0.mk (show IsIns w1 w.heap.size x from IsIns.below (show IsIns (w.alloc (.cells x.cells 62 (0, 0))) w.heap.size x from heap_alloc_last w _) hb); have HB1 := Aside0.mk (below_step (below_alloc (Below.refl _ _) (.cells x.cells 62 (0, 0))) hb); clear hb)
      | (go_at_call 41; refine (HO.out _ HB1.out).mono ?_; rintro e w2 ⟨rfl, hb⟩; have HI2 := Aside0.mk (HI1.out.below hb); have HB2 := Aside0.mk (below_step HB1.out hb); clear hb)
      | (go_at_call 39; refine (HT.out _).mono ?_; rintro e w3 ⟨rfl, hb⟩; have HI3 := Aside0.mk (HI2.out.below hb); have HB3 := Aside0.mk (below_step HB2.out hb); clear hb)
      | ((with_reducible refine gate_store (t := 57) (p := 7) rfl ?_); refine wpList_store_row rfl 57 _ _ rfl w3.heap.size (tcells T) rfl rfl 57 (tcells noes) (heap_alloc_last w3 _) LT.out NT.out (tcells_one T) ?_; have KT := Aside0.mk (show IsTab _ w3.heap.size T from IsTab.laid (T := noes) (heap_alloc_last w3 _)); have KI := Aside0.mk ((HI3.out.below (below_alloc (Below.refl _ _) (.cells (tcells noes) 57 (0, 0)))).row (g' := w3.heap.size) (by have := blk_lt HI3.out; omega) (tcells T)); have KL := Aside0.mk (below_setRow (below_alloc HB3.out (.cells (tcells noes) 57 (0, 0))) HB3.out.size (tcells T)))
      | ((with_reducible refine gate_dst (N := 16) rfl ?_); refine wpList_load_row rfl 57 _ rfl w3.heap.size rfl 57 (tcells T) (0, 0) _ KT.out Try.underlying57 rfl LT.out ?_)
      | ((with_reducible refine gate_dst (N := 17) rfl ?_); refine wpList_load_row rfl 62 _ rfl w.heap.size rfl 62 x.cells (0, 0) _ KI.out Try.underlying62 rfl info62 ?_)
      | (go_at_call 42; refine (HA.out _).mono ?_; rintro e w4 ⟨rfl, hb⟩; have JT := Aside0.mk (KT.out.below hb); have JI := Aside0.mk (KI.out.below hb); have JL := Aside0.mk (below_step KL.out hb); clear hb)
      | ((with_reducible refine gate_store (t := 57) (p := 8) rfl ?_); refine wpList_store_row rfl 57 _ _ rfl w4.heap.size (tcells U) rfl rfl 57 (tcells noes) (heap_alloc_last w4 _) LU.out NU.out (tcells_one U) ?_; have ZU := Aside0.mk (show IsTab _ w4.heap.size U from IsTab.laid (T := noes) (heap_alloc_last w4 _)); have ZT := Aside0.mk ((JT.out.below (below_alloc (Below.refl _ _) (.cells (tcells noes) 57 (0, 0)))).row (g' := w4.heap.size) (by have := blk_lt JT.out; omega) (tcells U)); have ZI := Aside0.mk ((JI.out.below (below_alloc (Below.refl _ _) (.cells (tcells noes) 57 (0, 0)))).row (g' := w4.heap.size) (by have := blk_lt JI.out; omega) (tcells U)); have ZL := Aside0.mk (below_setRow (below_alloc JL.out (.cells (tcells noes) 57 (0, 0))) JL.out.size (tcells U))))
  go_loopw [9] (fun c wr => ∃ i : Nat, c = .int .i64 i ∧ Aside0 (i ≤ 24 ∧ Below w.heap.size w wr ∧ IsIns wr w.heap.size x ∧ IsTab wr w3.heap.size T ∧ IsTab wr w4.heap.size U)) (fun c _ => 24 - (intOf c).toNat)
  case atStart => exact ⟨0, rfl, ⟨⟨by omega, ZL.out, ZI.out, ZT.out, ZU.out⟩⟩⟩
  case round =>
    obtain ⟨i, rfl, HS⟩ := hrel
    obtain ⟨h24, hb, hI, hT, hU⟩ := HS.out
    by_cases hi : i < 24
    · have hi' : (i : Int) < 24 := by omega
      have HI24 := Aside0.mk hi
      obtain ⟨k0, k1, k2, k4⟩ := hI.cells
      have HB := Aside0.mk hb
      have HI := Aside0.mk hI
      have HT1 := Aside0.mk hT
      have HU1 := Aside0.mk hU
      clear hb hI hT hU HS
      cases q1 : decide (x.op ≥ 1) with
      | true =>
        cases q2 : decide (x.op ≤ 3) with
        | true =>
          cases q3 : (x.d == (i : Int)) with
          | true =>
            have e1 : x.op ≥ 1 := of_decide_eq_true q1
            have e2 : x.op ≤ 3 := of_decide_eq_true q2
            go_upto_region 7 with fail
            refine region_det3 [(48, .bool true), (49, .bool false), (50, .bool false), (51, undef), (52, undef), (53, undef), (54, undef), (55, undef), (56, undef), (57, undef), (58, .bool false)] (fun _ W => Below w.heap.size w W ∧ IsIns W w.heap.size x ∧ IsTab W w3.heap.size T ∧ IsTab W w4.heap.size U) (by kernel_rfl) (by kernel_rfl) (by kernel_rfl) ?_
            intro aF haF
            simp only [putAll, Act.put, List.setIfInBounds_toArray, List.set_cons_succ, List.set_cons_zero] at haF
            subst haF
            refine ⟨?_, ⟨below_drew HB.out, HI.out, HT1.out, HU1.out⟩, ?_⟩
            · intro j o ho L W hc hr hs
              obtain ⟨h1, h2, h3, h4⟩ := hs
              rcases j with _ | _ | _ | _ | _ | _ | _ | _ | _ | _ | _ | j
              · obtain rfl := Option.some.inj ho
                exact step_run (v := .bool true) (w' := W) rfl rfl rfl ⟨h1, h2, h3, h4⟩
              · obtain rfl := Option.some.inj ho
                exact step_run (v := .bool false) (w' := W) rfl rfl rfl ⟨h1, h2, h3, h4⟩
              · obtain rfl := Option.some.inj ho
                exact step_run (v := .bool false) (w' := W) rfl rfl rfl ⟨h1, h2, h3, h4⟩
              · obtain rfl := Option.some.inj ho
                exact step_off rfl rfl ⟨h1, h2, h3, h4⟩
              · obtain rfl := Option.some.inj ho
                exact step_off rfl rfl ⟨h1, h2, h3, h4⟩
              · obtain rfl := Option.some.inj ho
                exact step_off rfl rfl ⟨h1, h2, h3, h4⟩
              · obtain rfl := Option.some.inj ho
                exact step_off rfl rfl ⟨h1, h2, h3, h4⟩
              · obtain rfl := Option.some.inj ho
                exact step_off rfl rfl ⟨h1, h2, h3, h4⟩
              · obtain rfl := Option.some.inj ho
                exact step_off rfl rfl ⟨h1, h2, h3, h4⟩
              · obtain rfl := Option.some.inj ho
                exact step_off rfl rfl ⟨h1, h2, h3, h4⟩
              · obtain rfl := Option.some.inj ho
                exact step_run (v := .bool false) (w' := W) rfl rfl rfl ⟨h1, h2, h3, h4⟩
              · exact absurd (Array.getElem?_eq_some_iff.1 ho).1 (by simp)
            · intro L W hall hs
              obtain ⟨h1, h2, h3, h4⟩ := hs
              have G1 := Aside0.mk h1
              have G2 := Aside0.mk h2
              have G3 := Aside0.mk h3
              have G4 := Aside0.mk h4
              clear h1 h2 h3 h4 hall
              go_wp2
              go_roundw
              case rel => exact ⟨i + 1, by go_num, ⟨⟨by omega, G1.out, G2.out, G3.out, G4.out⟩⟩⟩
              case measure => simp [intOf]; omega
          | false =>
            cases q4 : (x.op == 3) with
            | true =>
              cases q5 : (x.a == (i : Int)) with
              | true =>
                have e1 : x.op ≥ 1 := of_decide_eq_true q1
                have e2 : x.op ≤ 3 := of_decide_eq_true q2
                go_upto_region 7 with fail
                refine region_det3 [(48, .bool true), (49, .bool false), (50, .bool false), (51, undef), (52, undef), (53, undef), (54, undef), (55, undef), (56, undef), (57, undef), (58, .bool false)] (fun _ W => Below w.heap.size w W ∧ IsIns W w.heap.size x ∧ IsTab W w3.heap.size T ∧ IsTab W w4.heap.size U) (by kernel_rfl) (by kernel_rfl) (by kernel_rfl) ?_
                intro aF haF
                simp only [putAll, Act.put, List.setIfInBounds_toArray, List.set_cons_succ, List.set_cons_zero] at haF
                subst haF
                refine ⟨?_, ⟨below_drew HB.out, HI.out, HT1.out, HU1.out⟩, ?_⟩
                · intro j o ho L W hc hr hs
                  obtain ⟨h1, h2, h3, h4⟩ := hs
                  rcases j with _ | _ | _ | _ | _ | _ | _ | _ | _ | _ | _ | j
                  · obtain rfl := Option.some.inj ho
                    exact step_run (v := .bool true) (w' := W) rfl rfl rfl ⟨h1, h2, h3, h4⟩
                  · obtain rfl := Option.some.inj ho
                    exact step_run (v := .bool false) (w' := W) rfl rfl rfl ⟨h1, h2, h3, h4⟩
                  · obtain rfl := Option.some.inj ho
                    exact step_run (v := .bool false) (w' := W) rfl rfl rfl ⟨h1, h2, h3, h4⟩
                  · obtain rfl := Option.some.inj ho
                    exact step_off rfl rfl ⟨h1, h2, h3, h4⟩
                  · obtain rfl := Option.some.inj ho
                    exact step_off rfl rfl ⟨h1, h2, h3, h4⟩
                  · obtain rfl := Option.some.inj ho
                    exact step_off rfl rfl ⟨h1, h2, h3, h4⟩
                  · obtain rfl := Option.some.inj ho
                    exact step_off rfl rfl ⟨h1, h2, h3, h4⟩
                  · obtain rfl := Option.some.inj ho
                    exact step_off rfl rfl ⟨h1, h2, h3, h4⟩
                  · obtain rfl := Option.some.inj ho
                    exact step_off rfl rfl ⟨h1, h2, h3, h4⟩
                  · obtain rfl := Option.some.inj ho
                    exact step_off rfl rfl ⟨h1, h2, h3, h4⟩
                  · obtain rfl := Option.some.inj ho
                    exact step_run (v := .bool false) (w' := W) rfl rfl rfl ⟨h1, h2, h3, h4⟩
                  · exact absurd (Array.getElem?_eq_some_iff.1 ho).1 (by simp)
                · intro L W hall hs
                  obtain ⟨h1, h2, h3, h4⟩ := hs
                  have G1 := Aside0.mk h1
                  have G2 := Aside0.mk h2
                  have G3 := Aside0.mk h3
                  have G4 := Aside0.mk h4
                  clear h1 h2 h3 h4 hall
                  go_wp2
                  go_roundw
                  case rel => exact ⟨i + 1, by go_num, ⟨⟨by omega, G1.out, G2.out, G3.out, G4.out⟩⟩⟩
                  case measure => simp [intOf]; omega
              | false =>
                have e1 : x.op ≥ 1 := of_decide_eq_true q1
                have e2 : x.op ≤ 3 := of_decide_eq_true q2
                have hnm : named x i = false := by simp only [named, q1, q2, q3, q4, q5, Bool.and_false, Bool.false_and, Bool.and_true, Bool.true_and, Bool.or_false, Bool.false_or]
                have hee := HE.out i hnm
                obtain ⟨s, hs⟩ : ∃ s, T[i]? = some s := ⟨_, List.getElem?_eq_getElem (by rw [QT.out]; exact hi)⟩
                have SN : Aside0 (s ≠ .no) := ⟨fun e => PT.out i hi (by rw [hs, e])⟩
                have ST : Aside0 (some ((T[i]'(by rw [QT.out]; exact hi)).v) = some s.v) := ⟨by rw [(List.getElem?_eq_some_iff.1 hs).2]⟩
                have SU : Aside0 (some ((U[i]'(by rw [QU.out]; exact hi)).v) = some s.v) := ⟨by rw [(List.getElem?_eq_some_iff.1 (hee.trans hs)).2]⟩
                clear hnm hee hs
                go_upto_region 7 with fail
                refine region_det3 [(48, .bool false), (49, .bool true), (50, .bool true), (51, .int .i64 (i : Int)), (52, .pointer (some ⟨w4.heap.size, i, none⟩)), (53, s.v), (54, .int .i64 (i : Int)), (55, .pointer (some ⟨w3.heap.size, i, none⟩)), (56, s.v), (57, .bool false), (58, .bool false)] (fun _ W => Below w.heap.size w W ∧ IsIns W w.heap.size x ∧ IsTab W w3.heap.size T ∧ IsTab W w4.heap.size U) (by kernel_rfl) (by kernel_rfl) (by kernel_rfl) ?_
                intro aF haF
                simp only [putAll, Act.put, List.setIfInBounds_toArray, List.set_cons_succ, List.set_cons_zero] at haF
                subst haF
                refine ⟨?_, ⟨below_drew HB.out, HI.out, HT1.out, HU1.out⟩, ?_⟩
                · intro j o ho L W hc hr hs
                  obtain ⟨h1, h2, h3, h4⟩ := hs
                  rcases j with _ | _ | _ | _ | _ | _ | _ | _ | _ | _ | _ | j
                  · obtain rfl := Option.some.inj ho
                    exact step_run (v := .bool false) (w' := W) rfl rfl rfl ⟨h1, h2, h3, h4⟩
                  · obtain rfl := Option.some.inj ho
                    exact step_run (v := .bool true) (w' := W) rfl rfl rfl ⟨h1, h2, h3, h4⟩
                  · obtain rfl := Option.some.inj ho
                    exact step_run (v := .bool true) (w' := W) rfl rfl rfl ⟨h1, h2, h3, h4⟩
                  · obtain rfl := Option.some.inj ho
                    exact step_run (v := .int .i64 (i : Int)) (w' := W) rfl rfl rfl ⟨h1, h2, h3, h4⟩
                  · obtain rfl := Option.some.inj ho
                    exact step_run (v := .pointer (some ⟨w4.heap.size, i, none⟩)) (w' := W) rfl (idx_step w4.heap.size i rfl rfl rfl HI24.out W) rfl ⟨h1, h2, h3, h4⟩
                  · obtain rfl := Option.some.inj ho
                    exact step_run (v := s.v) (w' := W) rfl (load_step w4.heap.size i s rfl rfl W ((h4.cell i (by rw [QU.out]; exact HI24.out)).trans SU.out)) rfl ⟨h1, h2, h3, h4⟩
                  · obtain rfl := Option.some.inj ho
                    exact step_run (v := .int .i64 (i : Int)) (w' := W) rfl rfl rfl ⟨h1, h2, h3, h4⟩
                  · obtain rfl := Option.some.inj ho
                    exact step_run (v := .pointer (some ⟨w3.heap.size, i, none⟩)) (w' := W) rfl (idx_step w3.heap.size i rfl rfl rfl HI24.out W) rfl ⟨h1, h2, h3, h4⟩
                  · obtain rfl := Option.some.inj ho
                    exact step_run (v := s.v) (w' := W) rfl (load_step w3.heap.size i s rfl rfl W ((h3.cell i (by rw [QT.out]; exact HI24.out)).trans ST.out)) rfl ⟨h1, h2, h3, h4⟩
                  · obtain rfl := Option.some.inj ho
                    exact step_run (v := .bool false) (w' := W) rfl (ne_step s SN.out rfl rfl rfl W) rfl ⟨h1, h2, h3, h4⟩
                  · obtain rfl := Option.some.inj ho
                    exact step_run (v := .bool false) (w' := W) rfl rfl rfl ⟨h1, h2, h3, h4⟩
                  · exact absurd (Array.getElem?_eq_some_iff.1 ho).1 (by simp)
                · intro L W hall hs
                  obtain ⟨h1, h2, h3, h4⟩ := hs
                  have G1 := Aside0.mk h1
                  have G2 := Aside0.mk h2
                  have G3 := Aside0.mk h3
                  have G4 := Aside0.mk h4
                  clear h1 h2 h3 h4 hall
                  go_wp2
                  go_roundw
                  case rel => exact ⟨i + 1, by go_num, ⟨⟨by omega, G1.out, G2.out, G3.out, G4.out⟩⟩⟩
                  case measure => simp [intOf]; omega
            | false =>
              have e1 : x.op ≥ 1 := of_decide_eq_true q1
              have e2 : x.op ≤ 3 := of_decide_eq_true q2
              have hnm : named x i = false := by simp only [named, q1, q2, q3, q4, Bool.and_false, Bool.false_and, Bool.and_true, Bool.true_and, Bool.or_false, Bool.false_or]
              have hee := HE.out i hnm
              obtain ⟨s, hs⟩ : ∃ s, T[i]? = some s := ⟨_, List.getElem?_eq_getElem (by rw [QT.out]; exact hi)⟩
              have SN : Aside0 (s ≠ .no) := ⟨fun e => PT.out i hi (by rw [hs, e])⟩
              have ST : Aside0 (some ((T[i]'(by rw [QT.out]; exact hi)).v) = some s.v) := ⟨by rw [(List.getElem?_eq_some_iff.1 hs).2]⟩
              have SU : Aside0 (some ((U[i]'(by rw [QU.out]; exact hi)).v) = some s.v) := ⟨by rw [(List.getElem?_eq_some_iff.1 (hee.trans hs)).2]⟩
              clear hnm hee hs
              go_upto_region 7 with fail
              refine region_det3 [(48, .bool false), (49, .bool true), (50, .bool true), (51, .int .i64 (i : Int)), (52, .pointer (some ⟨w4.heap.size, i, none⟩)), (53, s.v), (54, .int .i64 (i : Int)), (55, .pointer (some ⟨w3.heap.size, i, none⟩)), (56, s.v), (57, .bool false), (58, .bool false)] (fun _ W => Below w.heap.size w W ∧ IsIns W w.heap.size x ∧ IsTab W w3.heap.size T ∧ IsTab W w4.heap.size U) (by kernel_rfl) (by kernel_rfl) (by kernel_rfl) ?_
              intro aF haF
              simp only [putAll, Act.put, List.setIfInBounds_toArray, List.set_cons_succ, List.set_cons_zero] at haF
              subst haF
              refine ⟨?_, ⟨below_drew HB.out, HI.out, HT1.out, HU1.out⟩, ?_⟩
              · intro j o ho L W hc hr hs
                obtain ⟨h1, h2, h3, h4⟩ := hs
                rcases j with _ | _ | _ | _ | _ | _ | _ | _ | _ | _ | _ | j
                · obtain rfl := Option.some.inj ho
                  exact step_run (v := .bool false) (w' := W) rfl rfl rfl ⟨h1, h2, h3, h4⟩
                · obtain rfl := Option.some.inj ho
                  exact step_run (v := .bool true) (w' := W) rfl rfl rfl ⟨h1, h2, h3, h4⟩
                · obtain rfl := Option.some.inj ho
                  exact step_run (v := .bool true) (w' := W) rfl rfl rfl ⟨h1, h2, h3, h4⟩
                · obtain rfl := Option.some.inj ho
                  exact step_run (v := .int .i64 (i : Int)) (w' := W) rfl rfl rfl ⟨h1, h2, h3, h4⟩
                · obtain rfl := Option.some.inj ho
                  exact step_run (v := .pointer (some ⟨w4.heap.size, i, none⟩)) (w' := W) rfl (idx_step w4.heap.size i rfl rfl rfl HI24.out W) rfl ⟨h1, h2, h3, h4⟩
                · obtain rfl := Option.some.inj ho
                  exact step_run (v := s.v) (w' := W) rfl (load_step w4.heap.size i s rfl rfl W ((h4.cell i (by rw [QU.out]; exact HI24.out)).trans SU.out)) rfl ⟨h1, h2, h3, h4⟩
                · obtain rfl := Option.some.inj ho
                  exact step_run (v := .int .i64 (i : Int)) (w' := W) rfl rfl rfl ⟨h1, h2, h3, h4⟩
                · obtain rfl := Option.some.inj ho
                  exact step_run (v := .pointer (some ⟨w3.heap.size, i, none⟩)) (w' := W) rfl (idx_step w3.heap.size i rfl rfl rfl HI24.out W) rfl ⟨h1, h2, h3, h4⟩
                · obtain rfl := Option.some.inj ho
                  exact step_run (v := s.v) (w' := W) rfl (load_step w3.heap.size i s rfl rfl W ((h3.cell i (by rw [QT.out]; exact HI24.out)).trans ST.out)) rfl ⟨h1, h2, h3, h4⟩
                · obtain rfl := Option.some.inj ho
                  exact step_run (v := .bool false) (w' := W) rfl (ne_step s SN.out rfl rfl rfl W) rfl ⟨h1, h2, h3, h4⟩
                · obtain rfl := Option.some.inj ho
                  exact step_run (v := .bool false) (w' := W) rfl rfl rfl ⟨h1, h2, h3, h4⟩
                · exact absurd (Array.getElem?_eq_some_iff.1 ho).1 (by simp)
              · intro L W hall hs
                obtain ⟨h1, h2, h3, h4⟩ := hs
                have G1 := Aside0.mk h1
                have G2 := Aside0.mk h2
                have G3 := Aside0.mk h3
                have G4 := Aside0.mk h4
                clear h1 h2 h3 h4 hall
                go_wp2
                go_roundw
                case rel => exact ⟨i + 1, by go_num, ⟨⟨by omega, G1.out, G2.out, G3.out, G4.out⟩⟩⟩
                case measure => simp [intOf]; omega
        | false =>
          cases q4 : (x.op == 3) with
          | true =>
            cases q5 : (x.a == (i : Int)) with
            | true =>
              have e1 : x.op ≥ 1 := of_decide_eq_true q1
              have e2 : ¬ x.op ≤ 3 := of_decide_eq_false q2
              go_upto_region 7 with fail
              refine region_det3 [(48, .bool true), (49, .bool false), (50, .bool false), (51, undef), (52, undef), (53, undef), (54, undef), (55, undef), (56, undef), (57, undef), (58, .bool false)] (fun _ W => Below w.heap.size w W ∧ IsIns W w.heap.size x ∧ IsTab W w3.heap.size T ∧ IsTab W w4.heap.size U) (by kernel_rfl) (by kernel_rfl) (by kernel_rfl) ?_
              intro aF haF
              simp only [putAll, Act.put, List.setIfInBounds_toArray, List.set_cons_succ, List.set_cons_zero] at haF
              subst haF
              refine ⟨?_, ⟨below_drew HB.out, HI.out, HT1.out, HU1.out⟩, ?_⟩
              · intro j o ho L W hc hr hs
                obtain ⟨h1, h2, h3, h4⟩ := hs
                rcases j with _ | _ | _ | _ | _ | _ | _ | _ | _ | _ | _ | j
                · obtain rfl := Option.some.inj ho
                  exact step_run (v := .bool true) (w' := W) rfl rfl rfl ⟨h1, h2, h3, h4⟩
                · obtain rfl := Option.some.inj ho
                  exact step_run (v := .bool false) (w' := W) rfl rfl rfl ⟨h1, h2, h3, h4⟩
                · obtain rfl := Option.some.inj ho
                  exact step_run (v := .bool false) (w' := W) rfl rfl rfl ⟨h1, h2, h3, h4⟩
                · obtain rfl := Option.some.inj ho
                  exact step_off rfl rfl ⟨h1, h2, h3, h4⟩
                · obtain rfl := Option.some.inj ho
                  exact step_off rfl rfl ⟨h1, h2, h3, h4⟩
                · obtain rfl := Option.some.inj ho
                  exact step_off rfl rfl ⟨h1, h2, h3, h4⟩
                · obtain rfl := Option.some.inj ho
                  exact step_off rfl rfl ⟨h1, h2, h3, h4⟩
                · obtain rfl := Option.some.inj ho
                  exact step_off rfl rfl ⟨h1, h2, h3, h4⟩
                · obtain rfl := Option.some.inj ho
                  exact step_off rfl rfl ⟨h1, h2, h3, h4⟩
                · obtain rfl := Option.some.inj ho
                  exact step_off rfl rfl ⟨h1, h2, h3, h4⟩
                · obtain rfl := Option.some.inj ho
                  exact step_run (v := .bool false) (w' := W) rfl rfl rfl ⟨h1, h2, h3, h4⟩
                · exact absurd (Array.getElem?_eq_some_iff.1 ho).1 (by simp)
              · intro L W hall hs
                obtain ⟨h1, h2, h3, h4⟩ := hs
                have G1 := Aside0.mk h1
                have G2 := Aside0.mk h2
                have G3 := Aside0.mk h3
                have G4 := Aside0.mk h4
                clear h1 h2 h3 h4 hall
                go_wp2
                go_roundw
                case rel => exact ⟨i + 1, by go_num, ⟨⟨by omega, G1.out, G2.out, G3.out, G4.out⟩⟩⟩
                case measure => simp [intOf]; omega
            | false =>
              have e1 : x.op ≥ 1 := of_decide_eq_true q1
              have e2 : ¬ x.op ≤ 3 := of_decide_eq_false q2
              have hnm : named x i = false := by simp only [named, q1, q2, q4, q5, Bool.and_false, Bool.false_and, Bool.and_true, Bool.true_and, Bool.or_false, Bool.false_or]
              have hee := HE.out i hnm
              obtain ⟨s, hs⟩ : ∃ s, T[i]? = some s := ⟨_, List.getElem?_eq_getElem (by rw [QT.out]; exact hi)⟩
              have SN : Aside0 (s ≠ .no) := ⟨fun e => PT.out i hi (by rw [hs, e])⟩
              have ST : Aside0 (some ((T[i]'(by rw [QT.out]; exact hi)).v) = some s.v) := ⟨by rw [(List.getElem?_eq_some_iff.1 hs).2]⟩
              have SU : Aside0 (some ((U[i]'(by rw [QU.out]; exact hi)).v) = some s.v) := ⟨by rw [(List.getElem?_eq_some_iff.1 (hee.trans hs)).2]⟩
              clear hnm hee hs
              go_upto_region 7 with fail
              refine region_det3 [(48, .bool false), (49, .bool true), (50, .bool true), (51, .int .i64 (i : Int)), (52, .pointer (some ⟨w4.heap.size, i, none⟩)), (53, s.v), (54, .int .i64 (i : Int)), (55, .pointer (some ⟨w3.heap.size, i, none⟩)), (56, s.v), (57, .bool false), (58, .bool false)] (fun _ W => Below w.heap.size w W ∧ IsIns W w.heap.size x ∧ IsTab W w3.heap.size T ∧ IsTab W w4.heap.size U) (by kernel_rfl) (by kernel_rfl) (by kernel_rfl) ?_
              intro aF haF
              simp only [putAll, Act.put, List.setIfInBounds_toArray, List.set_cons_succ, List.set_cons_zero] at haF
              subst haF
              refine ⟨?_, ⟨below_drew HB.out, HI.out, HT1.out, HU1.out⟩, ?_⟩
              · intro j o ho L W hc hr hs
                obtain ⟨h1, h2, h3, h4⟩ := hs
                rcases j with _ | _ | _ | _ | _ | _ | _ | _ | _ | _ | _ | j
                · obtain rfl := Option.some.inj ho
                  exact step_run (v := .bool false) (w' := W) rfl rfl rfl ⟨h1, h2, h3, h4⟩
                · obtain rfl := Option.some.inj ho
                  exact step_run (v := .bool true) (w' := W) rfl rfl rfl ⟨h1, h2, h3, h4⟩
                · obtain rfl := Option.some.inj ho
                  exact step_run (v := .bool true) (w' := W) rfl rfl rfl ⟨h1, h2, h3, h4⟩
                · obtain rfl := Option.some.inj ho
                  exact step_run (v := .int .i64 (i : Int)) (w' := W) rfl rfl rfl ⟨h1, h2, h3, h4⟩
                · obtain rfl := Option.some.inj ho
                  exact step_run (v := .pointer (some ⟨w4.heap.size, i, none⟩)) (w' := W) rfl (idx_step w4.heap.size i rfl rfl rfl HI24.out W) rfl ⟨h1, h2, h3, h4⟩
                · obtain rfl := Option.some.inj ho
                  exact step_run (v := s.v) (w' := W) rfl (load_step w4.heap.size i s rfl rfl W ((h4.cell i (by rw [QU.out]; exact HI24.out)).trans SU.out)) rfl ⟨h1, h2, h3, h4⟩
                · obtain rfl := Option.some.inj ho
                  exact step_run (v := .int .i64 (i : Int)) (w' := W) rfl rfl rfl ⟨h1, h2, h3, h4⟩
                · obtain rfl := Option.some.inj ho
                  exact step_run (v := .pointer (some ⟨w3.heap.size, i, none⟩)) (w' := W) rfl (idx_step w3.heap.size i rfl rfl rfl HI24.out W) rfl ⟨h1, h2, h3, h4⟩
                · obtain rfl := Option.some.inj ho
                  exact step_run (v := s.v) (w' := W) rfl (load_step w3.heap.size i s rfl rfl W ((h3.cell i (by rw [QT.out]; exact HI24.out)).trans ST.out)) rfl ⟨h1, h2, h3, h4⟩
                · obtain rfl := Option.some.inj ho
                  exact step_run (v := .bool false) (w' := W) rfl (ne_step s SN.out rfl rfl rfl W) rfl ⟨h1, h2, h3, h4⟩
                · obtain rfl := Option.some.inj ho
                  exact step_run (v := .bool false) (w' := W) rfl rfl rfl ⟨h1, h2, h3, h4⟩
                · exact absurd (Array.getElem?_eq_some_iff.1 ho).1 (by simp)
              · intro L W hall hs
                obtain ⟨h1, h2, h3, h4⟩ := hs
                have G1 := Aside0.mk h1
                have G2 := Aside0.mk h2
                have G3 := Aside0.mk h3
                have G4 := Aside0.mk h4
                clear h1 h2 h3 h4 hall
                go_wp2
                go_roundw
                case rel => exact ⟨i + 1, by go_num, ⟨⟨by omega, G1.out, G2.out, G3.out, G4.out⟩⟩⟩
                case measure => simp [intOf]; omega
          | false =>
            have e1 : x.op ≥ 1 := of_decide_eq_true q1
            have e2 : ¬ x.op ≤ 3 := of_decide_eq_false q2
            have hnm : named x i = false := by simp only [named, q1, q2, q4, Bool.and_false, Bool.false_and, Bool.and_true, Bool.true_and, Bool.or_false, Bool.false_or]
            have hee := HE.out i hnm
            obtain ⟨s, hs⟩ : ∃ s, T[i]? = some s := ⟨_, List.getElem?_eq_getElem (by rw [QT.out]; exact hi)⟩
            have SN : Aside0 (s ≠ .no) := ⟨fun e => PT.out i hi (by rw [hs, e])⟩
            have ST : Aside0 (some ((T[i]'(by rw [QT.out]; exact hi)).v) = some s.v) := ⟨by rw [(List.getElem?_eq_some_iff.1 hs).2]⟩
            have SU : Aside0 (some ((U[i]'(by rw [QU.out]; exact hi)).v) = some s.v) := ⟨by rw [(List.getElem?_eq_some_iff.1 (hee.trans hs)).2]⟩
            clear hnm hee hs
            go_upto_region 7 with fail
            refine region_det3 [(48, .bool false), (49, .bool true), (50, .bool true), (51, .int .i64 (i : Int)), (52, .pointer (some ⟨w4.heap.size, i, none⟩)), (53, s.v), (54, .int .i64 (i : Int)), (55, .pointer (some ⟨w3.heap.size, i, none⟩)), (56, s.v), (57, .bool false), (58, .bool false)] (fun _ W => Below w.heap.size w W ∧ IsIns W w.heap.size x ∧ IsTab W w3.heap.size T ∧ IsTab W w4.heap.size U) (by kernel_rfl) (by kernel_rfl) (by kernel_rfl) ?_
            intro aF haF
            simp only [putAll, Act.put, List.setIfInBounds_toArray, List.set_cons_succ, List.set_cons_zero] at haF
            subst haF
            refine ⟨?_, ⟨below_drew HB.out, HI.out, HT1.out, HU1.out⟩, ?_⟩
            · intro j o ho L W hc hr hs
              obtain ⟨h1, h2, h3, h4⟩ := hs
              rcases j with _ | _ | _ | _ | _ | _ | _ | _ | _ | _ | _ | j
              · obtain rfl := Option.some.inj ho
                exact step_run (v := .bool false) (w' := W) rfl rfl rfl ⟨h1, h2, h3, h4⟩
              · obtain rfl := Option.some.inj ho
                exact step_run (v := .bool true) (w' := W) rfl rfl rfl ⟨h1, h2, h3, h4⟩
              · obtain rfl := Option.some.inj ho
                exact step_run (v := .bool true) (w' := W) rfl rfl rfl ⟨h1, h2, h3, h4⟩
              · obtain rfl := Option.some.inj ho
                exact step_run (v := .int .i64 (i : Int)) (w' := W) rfl rfl rfl ⟨h1, h2, h3, h4⟩
              · obtain rfl := Option.some.inj ho
                exact step_run (v := .pointer (some ⟨w4.heap.size, i, none⟩)) (w' := W) rfl (idx_step w4.heap.size i rfl rfl rfl HI24.out W) rfl ⟨h1, h2, h3, h4⟩
              · obtain rfl := Option.some.inj ho
                exact step_run (v := s.v) (w' := W) rfl (load_step w4.heap.size i s rfl rfl W ((h4.cell i (by rw [QU.out]; exact HI24.out)).trans SU.out)) rfl ⟨h1, h2, h3, h4⟩
              · obtain rfl := Option.some.inj ho
                exact step_run (v := .int .i64 (i : Int)) (w' := W) rfl rfl rfl ⟨h1, h2, h3, h4⟩
              · obtain rfl := Option.some.inj ho
                exact step_run (v := .pointer (some ⟨w3.heap.size, i, none⟩)) (w' := W) rfl (idx_step w3.heap.size i rfl rfl rfl HI24.out W) rfl ⟨h1, h2, h3, h4⟩
              · obtain rfl := Option.some.inj ho
                exact step_run (v := s.v) (w' := W) rfl (load_step w3.heap.size i s rfl rfl W ((h3.cell i (by rw [QT.out]; exact HI24.out)).trans ST.out)) rfl ⟨h1, h2, h3, h4⟩
              · obtain rfl := Option.some.inj ho
                exact step_run (v := .bool false) (w' := W) rfl (ne_step s SN.out rfl rfl rfl W) rfl ⟨h1, h2, h3, h4⟩
              · obtain rfl := Option.some.inj ho
                exact step_run (v := .bool false) (w' := W) rfl rfl rfl ⟨h1, h2, h3, h4⟩
              · exact absurd (Array.getElem?_eq_some_iff.1 ho).1 (by simp)
            · intro L W hall hs
              obtain ⟨h1, h2, h3, h4⟩ := hs
              have G1 := Aside0.mk h1
              have G2 := Aside0.mk h2
              have G3 := Aside0.mk h3
              have G4 := Aside0.mk h4
              clear h1 h2 h3 h4 hall
              go_wp2
              go_roundw
              case rel => exact ⟨i + 1, by go_num, ⟨⟨by omega, G1.out, G2.out, G3.out, G4.out⟩⟩⟩
              case measure => simp [intOf]; omega
      | false =>
        cases q4 : (x.op == 3) with
        | true =>
          cases q5 : (x.a == (i : Int)) with
          | true =>
            have e1 : ¬ x.op ≥ 1 := of_decide_eq_false q1
            go_upto_region 7 with fail
            refine region_det3 [(48, .bool true), (49, .bool false), (50, .bool false), (51, undef), (52, undef), (53, undef), (54, undef), (55, undef), (56, undef), (57, undef), (58, .bool false)] (fun _ W => Below w.heap.size w W ∧ IsIns W w.heap.size x ∧ IsTab W w3.heap.size T ∧ IsTab W w4.heap.size U) (by kernel_rfl) (by kernel_rfl) (by kernel_rfl) ?_
            intro aF haF
            simp only [putAll, Act.put, List.setIfInBounds_toArray, List.set_cons_succ, List.set_cons_zero] at haF
            subst haF
            refine ⟨?_, ⟨below_drew HB.out, HI.out, HT1.out, HU1.out⟩, ?_⟩
            · intro j o ho L W hc hr hs
              obtain ⟨h1, h2, h3, h4⟩ := hs
              rcases j with _ | _ | _ | _ | _ | _ | _ | _ | _ | _ | _ | j
              · obtain rfl := Option.some.inj ho
                exact step_run (v := .bool true) (w' := W) rfl rfl rfl ⟨h1, h2, h3, h4⟩
              · obtain rfl := Option.some.inj ho
                exact step_run (v := .bool false) (w' := W) rfl rfl rfl ⟨h1, h2, h3, h4⟩
              · obtain rfl := Option.some.inj ho
                exact step_run (v := .bool false) (w' := W) rfl rfl rfl ⟨h1, h2, h3, h4⟩
              · obtain rfl := Option.some.inj ho
                exact step_off rfl rfl ⟨h1, h2, h3, h4⟩
              · obtain rfl := Option.some.inj ho
                exact step_off rfl rfl ⟨h1, h2, h3, h4⟩
              · obtain rfl := Option.some.inj ho
                exact step_off rfl rfl ⟨h1, h2, h3, h4⟩
              · obtain rfl := Option.some.inj ho
                exact step_off rfl rfl ⟨h1, h2, h3, h4⟩
              · obtain rfl := Option.some.inj ho
                exact step_off rfl rfl ⟨h1, h2, h3, h4⟩
              · obtain rfl := Option.some.inj ho
                exact step_off rfl rfl ⟨h1, h2, h3, h4⟩
              · obtain rfl := Option.some.inj ho
                exact step_off rfl rfl ⟨h1, h2, h3, h4⟩
              · obtain rfl := Option.some.inj ho
                exact step_run (v := .bool false) (w' := W) rfl rfl rfl ⟨h1, h2, h3, h4⟩
              · exact absurd (Array.getElem?_eq_some_iff.1 ho).1 (by simp)
            · intro L W hall hs
              obtain ⟨h1, h2, h3, h4⟩ := hs
              have G1 := Aside0.mk h1
              have G2 := Aside0.mk h2
              have G3 := Aside0.mk h3
              have G4 := Aside0.mk h4
              clear h1 h2 h3 h4 hall
              go_wp2
              go_roundw
              case rel => exact ⟨i + 1, by go_num, ⟨⟨by omega, G1.out, G2.out, G3.out, G4.out⟩⟩⟩
              case measure => simp [intOf]; omega
          | false =>
            have e1 : ¬ x.op ≥ 1 := of_decide_eq_false q1
            have hnm : named x i = false := by simp only [named, q1, q4, q5, Bool.and_false, Bool.false_and, Bool.and_true, Bool.true_and, Bool.or_false, Bool.false_or]
            have hee := HE.out i hnm
            obtain ⟨s, hs⟩ : ∃ s, T[i]? = some s := ⟨_, List.getElem?_eq_getElem (by rw [QT.out]; exact hi)⟩
            have SN : Aside0 (s ≠ .no) := ⟨fun e => PT.out i hi (by rw [hs, e])⟩
            have ST : Aside0 (some ((T[i]'(by rw [QT.out]; exact hi)).v) = some s.v) := ⟨by rw [(List.getElem?_eq_some_iff.1 hs).2]⟩
            have SU : Aside0 (some ((U[i]'(by rw [QU.out]; exact hi)).v) = some s.v) := ⟨by rw [(List.getElem?_eq_some_iff.1 (hee.trans hs)).2]⟩
            clear hnm hee hs
            go_upto_region 7 with fail
            refine region_det3 [(48, .bool false), (49, .bool true), (50, .bool true), (51, .int .i64 (i : Int)), (52, .pointer (some ⟨w4.heap.size, i, none⟩)), (53, s.v), (54, .int .i64 (i : Int)), (55, .pointer (some ⟨w3.heap.size, i, none⟩)), (56, s.v), (57, .bool false), (58, .bool false)] (fun _ W => Below w.heap.size w W ∧ IsIns W w.heap.size x ∧ IsTab W w3.heap.size T ∧ IsTab W w4.heap.size U) (by kernel_rfl) (by kernel_rfl) (by kernel_rfl) ?_
            intro aF haF
            simp only [putAll, Act.put, List.setIfInBounds_toArray, List.set_cons_succ, List.set_cons_zero] at haF
            subst haF
            refine ⟨?_, ⟨below_drew HB.out, HI.out, HT1.out, HU1.out⟩, ?_⟩
            · intro j o ho L W hc hr hs
              obtain ⟨h1, h2, h3, h4⟩ := hs
              rcases j with _ | _ | _ | _ | _ | _ | _ | _ | _ | _ | _ | j
              · obtain rfl := Option.some.inj ho
                exact step_run (v := .bool false) (w' := W) rfl rfl rfl ⟨h1, h2, h3, h4⟩
              · obtain rfl := Option.some.inj ho
                exact step_run (v := .bool true) (w' := W) rfl rfl rfl ⟨h1, h2, h3, h4⟩
              · obtain rfl := Option.some.inj ho
                exact step_run (v := .bool true) (w' := W) rfl rfl rfl ⟨h1, h2, h3, h4⟩
              · obtain rfl := Option.some.inj ho
                exact step_run (v := .int .i64 (i : Int)) (w' := W) rfl rfl rfl ⟨h1, h2, h3, h4⟩
              · obtain rfl := Option.some.inj ho
                exact step_run (v := .pointer (some ⟨w4.heap.size, i, none⟩)) (w' := W) rfl (idx_step w4.heap.size i rfl rfl rfl HI24.out W) rfl ⟨h1, h2, h3, h4⟩
              · obtain rfl := Option.some.inj ho
                exact step_run (v := s.v) (w' := W) rfl (load_step w4.heap.size i s rfl rfl W ((h4.cell i (by rw [QU.out]; exact HI24.out)).trans SU.out)) rfl ⟨h1, h2, h3, h4⟩
              · obtain rfl := Option.some.inj ho
                exact step_run (v := .int .i64 (i : Int)) (w' := W) rfl rfl rfl ⟨h1, h2, h3, h4⟩
              · obtain rfl := Option.some.inj ho
                exact step_run (v := .pointer (some ⟨w3.heap.size, i, none⟩)) (w' := W) rfl (idx_step w3.heap.size i rfl rfl rfl HI24.out W) rfl ⟨h1, h2, h3, h4⟩
              · obtain rfl := Option.some.inj ho
                exact step_run (v := s.v) (w' := W) rfl (load_step w3.heap.size i s rfl rfl W ((h3.cell i (by rw [QT.out]; exact HI24.out)).trans ST.out)) rfl ⟨h1, h2, h3, h4⟩
              · obtain rfl := Option.some.inj ho
                exact step_run (v := .bool false) (w' := W) rfl (ne_step s SN.out rfl rfl rfl W) rfl ⟨h1, h2, h3, h4⟩
              · obtain rfl := Option.some.inj ho
                exact step_run (v := .bool false) (w' := W) rfl rfl rfl ⟨h1, h2, h3, h4⟩
              · exact absurd (Array.getElem?_eq_some_iff.1 ho).1 (by simp)
            · intro L W hall hs
              obtain ⟨h1, h2, h3, h4⟩ := hs
              have G1 := Aside0.mk h1
              have G2 := Aside0.mk h2
              have G3 := Aside0.mk h3
              have G4 := Aside0.mk h4
              clear h1 h2 h3 h4 hall
              go_wp2
              go_roundw
              case rel => exact ⟨i + 1, by go_num, ⟨⟨by omega, G1.out, G2.out, G3.out, G4.out⟩⟩⟩
              case measure => simp [intOf]; omega
        | false =>
          have e1 : ¬ x.op ≥ 1 := of_decide_eq_false q1
          have hnm : named x i = false := by simp only [named, q1, q4, Bool.and_false, Bool.false_and, Bool.and_true, Bool.true_and, Bool.or_false, Bool.false_or]
          have hee := HE.out i hnm
          obtain ⟨s, hs⟩ : ∃ s, T[i]? = some s := ⟨_, List.getElem?_eq_getElem (by rw [QT.out]; exact hi)⟩
          have SN : Aside0 (s ≠ .no) := ⟨fun e => PT.out i hi (by rw [hs, e])⟩
          have ST : Aside0 (some ((T[i]'(by rw [QT.out]; exact hi)).v) = some s.v) := ⟨by rw [(List.getElem?_eq_some_iff.1 hs).2]⟩
          have SU : Aside0 (some ((U[i]'(by rw [QU.out]; exact hi)).v) = some s.v) := ⟨by rw [(List.getElem?_eq_some_iff.1 (hee.trans hs)).2]⟩
          clear hnm hee hs
          go_upto_region 7 with fail
          refine region_det3 [(48, .bool false), (49, .bool true), (50, .bool true), (51, .int .i64 (i : Int)), (52, .pointer (some ⟨w4.heap.size, i, none⟩)), (53, s.v), (54, .int .i64 (i : Int)), (55, .pointer (some ⟨w3.heap.size, i, none⟩)), (56, s.v), (57, .bool false), (58, .bool false)] (fun _ W => Below w.heap.size w W ∧ IsIns W w.heap.size x ∧ IsTab W w3.heap.size T ∧ IsTab W w4.heap.size U) (by kernel_rfl) (by kernel_rfl) (by kernel_rfl) ?_
          intro aF haF
          simp only [putAll, Act.put, List.setIfInBounds_toArray, List.set_cons_succ, List.set_cons_zero] at haF
          subst haF
          refine ⟨?_, ⟨below_drew HB.out, HI.out, HT1.out, HU1.out⟩, ?_⟩
          · intro j o ho L W hc hr hs
            obtain ⟨h1, h2, h3, h4⟩ := hs
            rcases j with _ | _ | _ | _ | _ | _ | _ | _ | _ | _ | _ | j
            · obtain rfl := Option.some.inj ho
              exact step_run (v := .bool false) (w' := W) rfl rfl rfl ⟨h1, h2, h3, h4⟩
            · obtain rfl := Option.some.inj ho
              exact step_run (v := .bool true) (w' := W) rfl rfl rfl ⟨h1, h2, h3, h4⟩
            · obtain rfl := Option.some.inj ho
              exact step_run (v := .bool true) (w' := W) rfl rfl rfl ⟨h1, h2, h3, h4⟩
            · obtain rfl := Option.some.inj ho
              exact step_run (v := .int .i64 (i : Int)) (w' := W) rfl rfl rfl ⟨h1, h2, h3, h4⟩
            · obtain rfl := Option.some.inj ho
              exact step_run (v := .pointer (some ⟨w4.heap.size, i, none⟩)) (w' := W) rfl (idx_step w4.heap.size i rfl rfl rfl HI24.out W) rfl ⟨h1, h2, h3, h4⟩
            · obtain rfl := Option.some.inj ho
              exact step_run (v := s.v) (w' := W) rfl (load_step w4.heap.size i s rfl rfl W ((h4.cell i (by rw [QU.out]; exact HI24.out)).trans SU.out)) rfl ⟨h1, h2, h3, h4⟩
            · obtain rfl := Option.some.inj ho
              exact step_run (v := .int .i64 (i : Int)) (w' := W) rfl rfl rfl ⟨h1, h2, h3, h4⟩
            · obtain rfl := Option.some.inj ho
              exact step_run (v := .pointer (some ⟨w3.heap.size, i, none⟩)) (w' := W) rfl (idx_step w3.heap.size i rfl rfl rfl HI24.out W) rfl ⟨h1, h2, h3, h4⟩
            · obtain rfl := Option.some.inj ho
              exact step_run (v := s.v) (w' := W) rfl (load_step w3.heap.size i s rfl rfl W ((h3.cell i (by rw [QT.out]; exact HI24.out)).trans ST.out)) rfl ⟨h1, h2, h3, h4⟩
            · obtain rfl := Option.some.inj ho
              exact step_run (v := .bool false) (w' := W) rfl (ne_step s SN.out rfl rfl rfl W) rfl ⟨h1, h2, h3, h4⟩
            · obtain rfl := Option.some.inj ho
              exact step_run (v := .bool false) (w' := W) rfl rfl rfl ⟨h1, h2, h3, h4⟩
            · exact absurd (Array.getElem?_eq_some_iff.1 ho).1 (by simp)
          · intro L W hall hs
            obtain ⟨h1, h2, h3, h4⟩ := hs
            have G1 := Aside0.mk h1
            have G2 := Aside0.mk h2
            have G3 := Aside0.mk h3
            have G4 := Aside0.mk h4
            clear h1 h2 h3 h4 hall
            go_wp2
            go_roundw
            case rel => exact ⟨i + 1, by go_num, ⟨⟨by omega, G1.out, G2.out, G3.out, G4.out⟩⟩⟩
            case measure => simp [intOf]; omega
    · have HB := Aside0.mk hb
      clear hb hI hT hU HS
      have hi' : ¬ ((i : Int) < 24) := by omega
      go_wp2_with (first | (go_at_call 38; refine (env_knows _).mono ?_; rintro e w5 ⟨rfl, hb⟩; have HB5 := Aside0.mk (below_step HB.out hb); clear hb))
      go_ret
      exact ⟨rfl, HB5.out⟩
theorem env_Other (A0 : Option Addr) (c0 : Nat) (l0 : List Int) (A1 : Option Addr) (c1 : Nat) (l1 : List Int) (x : In) (w : World) (hr0 : Kd.C (Kd.int .u8) w A0 l0.length l0) (hc0 : l0.length ≤ c0) (hr1 : Kd.C (Kd.int .i64) w A1 l1.length l1) (hc1 : l1.length ≤ c1) :
    Calls Try.prog 17 #[.slice A0 l0.length c0, .slice A1 l1.length c1, .agg x.cells] w fun e w' => e = .returned (.bool true) ∧ Below w.heap.size w w' := by
  have lO : (ofT l0 l1).length = 24 := ofTo_len _ _ _
  obtain ⟨T, hT⟩ : ∃ T, T = thenT first (ofT l0 l1) := ⟨_, rfl⟩
  have lT : T.length = 24 := by rw [hT]; exact thenT_len _ _ lO
  have gT : goodB T = true := by rw [hT]; exact thenT_good first_len
  exact other_of A0 c0 l0 A1 c1 l1 x T (ofT l0 l1) (afterT T x) lT (afterT_len' lT _) (noNo_of gT) (fun i hn => other_law T lT gT x i hn)
    (fun w => by rw [hT]; exact env_Then first _ first_len lO w) w (fun w1 hb => env_Of A0 c0 l0 A1 c1 l1 w1 (Kd.C_below hr0 hb) hc0 (Kd.C_below hr1 hb) hc1)
    (fun w => env_After T lT x w)

end Go.Proofs.Ytolacdlobopoiaa.Num
