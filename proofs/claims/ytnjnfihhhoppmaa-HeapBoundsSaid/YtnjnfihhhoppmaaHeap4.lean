/- Of the functions that the heap's laws reach: for each a Lean function, and that the Go code comes to its answers. Begun as a text of the kit's print tool over a stand-in body of heap.Store; Store's own section is typed for the true body. Conditions: each theorem's own. -/
import Derived.Test.YtnjnfihhhoppmaaHeap0
import Derived.Test.YtnjnfihhhoppmaaHeap1
namespace Go.Proofs.Ytnjnfihhhoppmaa.Heap
open Go.RowKit Go.Proofs.YtnjnfihhhoppmaaW.PrintWords Go.Proofs.YtnjnfihhhoppmaaW.PrintLast Go.Proofs.YtnjnfihhhoppmaaW.PrintMore
attribute [local go_sem] max2_int min2_int max_two min_two max_three min_three max_four min_four   -- for this text's walks alone
set_option linter.unusedVariables false
set_option linter.unusedSimpArgs false

/-! ### joinerylaw06_HeapBounds: function 8 -/
def joinerylaw06_HeapBounds.j0 : Nat → List Int → Int → Int → Int → Int → Bool → Option (Bool)
  | 0, _, _, _, _, _, _ => none
  | k + 1, x0, x1, x7, x8, x10, x11 => if x11 = true then (if 0 ≤ x1 then (if x1 < (x0.length : Int) then (if x7 = (rd x0 x1) then (if x8 = 0 then (if x10 = 0 then ((joinerylaw06_knows.f k).bind fun t234 => (some t234)) else (some false)) else (some false)) else (some false)) else (none)) else (none)) else (if x7 = 0 then (if x8 = 4 then (if x10 = 4 then ((joinerylaw06_knows.f k).bind fun t235 => (some t235)) else (some false)) else (some false)) else (some false))
def joinerylaw06_HeapBounds.f (k : Nat) (l0 : List Int) (a1 : Int) (a2 : Int) : Option (Bool) := if (l0.length : Int) > 100 then ((joinerylaw06_knows.f k).bind fun t226 => (some t226)) else ((heap_Load.f l0 a1).bind fun bt227 => ((heap_Store.f l0 a1 a2).bind fun bt229 => (if (l0.length : Int) ≤ 16 then (if a1 ≥ 0 then (joinerylaw06_HeapBounds.j0 k l0 a1 bt227.1 bt227.2 bt229.2 (decide (a1 < (l0.length : Int)))) else (joinerylaw06_HeapBounds.j0 k l0 a1 bt227.1 bt227.2 bt229.2 false)) else (joinerylaw06_HeapBounds.j0 k l0 a1 bt227.1 bt227.2 bt229.2 false))))
theorem joinerylaw06_HeapBounds.mono_l : ∀ k, (∀ y0 y1 y2 y3 y4 y5, LeO (joinerylaw06_HeapBounds.j0 k y0 y1 y2 y3 y4 y5) (joinerylaw06_HeapBounds.j0 (k + 1) y0 y1 y2 y3 y4 y5))
  | 0 => fun _ _ _ _ _ _ r h => by simp [joinerylaw06_HeapBounds.j0] at h
  | k + 1 => by
    have ih0 := joinerylaw06_HeapBounds.mono_l k
    · intro y0 y1 y2 y3 y4 y5
      unfold joinerylaw06_HeapBounds.j0
      repeat' first
      | (with_reducible exact ih0 _ _ _ _ _ _)
      | (with_reducible exact joinerylaw06_knows.mono _)
      | (with_reducible exact LeO.refl _)
      | (with_reducible exact LeO.none _)
      | (with_reducible refine LeO.ite ?_ ?_)
      | (with_reducible refine LeO.bind ?_ (fun _ => ?_))
      | exact ih0 _ _ _ _ _ _
      | exact joinerylaw06_knows.mono _
      | exact LeO.none _
      | refine LeO.ite ?_ ?_
      | refine LeO.bind ?_ (fun _ => ?_)
theorem joinerylaw06_HeapBounds.mono : ∀ a0 a1 a2 k, LeO (joinerylaw06_HeapBounds.f k a0 a1 a2) (joinerylaw06_HeapBounds.f (k + 1) a0 a1 a2) := by
  intro a0 a1 a2 k
  have ih0 := joinerylaw06_HeapBounds.mono_l k
  unfold joinerylaw06_HeapBounds.f
  repeat' first
      | (with_reducible exact ih0 _ _ _ _ _ _)
      | (with_reducible exact joinerylaw06_knows.mono _)
      | (with_reducible exact LeO.refl _)
      | (with_reducible exact LeO.none _)
      | (with_reducible refine LeO.ite ?_ ?_)
      | (with_reducible refine LeO.bind ?_ (fun _ => ?_))
      | exact ih0 _ _ _ _ _ _
      | exact joinerylaw06_knows.mono _
      | exact LeO.none _
      | refine LeO.ite ?_ ?_
      | refine LeO.bind ?_ (fun _ => ?_)
set_option maxHeartbeats 8000000 in
set_option maxRecDepth 100000 in
theorem joinerylaw06_HeapBounds.calls (k : Nat) (A0 : Option Addr) (c0 : Nat) (l0 : List Int) (a1 : Int) (a2 : Int) (r : Bool) (w : World) (hr0 : Kd.C (Kd.int .i64) w A0 l0.length l0) (hc0 : l0.length ≤ c0) (h : joinerylaw06_HeapBounds.f k l0 a1 a2 = some r) :
    Calls Try.prog 8 #[.slice A0 l0.length c0, .int .i64 a1, .int .i64 a2] w fun e w' => e = .returned (.bool r) ∧ Below w.heap.size w w' := by
  have HR0 := Aside0.mk hr0
  have HC0 := Aside0.mk hc0
  clear hr0 hc0
  have HB := Aside0.mk (Below.refl w.heap.size w)
  have H : (if (l0.length : Int) > 100 then ((joinerylaw06_knows.f k).bind fun t226 => (some t226)) else ((heap_Load.f l0 a1).bind fun bt227 => ((heap_Store.f l0 a1 a2).bind fun bt229 => (if (l0.length : Int) ≤ 16 then (if a1 ≥ 0 then (joinerylaw06_HeapBounds.j0 k l0 a1 bt227.1 bt227.2 bt229.2 (decide (a1 < (l0.length : Int)))) else (joinerylaw06_HeapBounds.j0 k l0 a1 bt227.1 bt227.2 bt229.2 false)) else (joinerylaw06_HeapBounds.j0 k l0 a1 bt227.1 bt227.2 bt229.2 false))))) = some r := h
  clear h
  by_cases c4 : (l0.length : Int) > 100
  · rw [if_pos c4] at H
    have c4b0 : decide (100 < (l0.length : Int)) = true := decide_eq_true c4
    have c4b1 : decide (100 < l0.length) = true := decide_eq_true (by omega)
    clear c4
    replace H := Option.bind_eq_some_iff.mp H
    obtain ⟨t226, A50, H⟩ := H
    replace H : (some t226) = some r := H
    have A5 := Aside0.mk A50
    clear A50
    obtain rfl := Option.some.inj H
    go_enter Try.func8, Try.ntmps8
    go_wp2_with (first | ((with_reducible refine gate_callee (f := 9) rfl ?_); refine goesL_ (some 15) rfl rfl Try.func9 (by kernel_rfl) rfl #[] rfl (by (try simp only [List.map_toArray, List.map_cons, List.map_nil]); first | done | rfl | (simp only [List.length_drop, List.length_take]; rfl)) ?_; (with_reducible refine (joinerylaw06_knows.calls k  t226 _ A5.out).mono ?_); rintro e w6 ⟨rfl, hb⟩; refine ⟨_, rfl, ?_⟩; have n0_ := Aside0.mk (below_step (by repeat (first | (with_reducible first | exact HB.out | apply below_alloc | apply pw_below_drewN | apply below_drew1) | exact HB.out)) hb); clear HB; have HB := n0_; clear n0_; (try clear hb); (try clear hb2); (try clear hk); (try clear hi)))
    go_ret
    exact ⟨by first | rfl | (simp [errW_none, errW_some] <;> rfl) | (simp [*, errW_none, errW_some] <;> rfl), by repeat (first | (with_reducible first | exact HB.out | apply below_alloc | apply pw_below_drewN | apply below_drew1) | exact HB.out)⟩
  · rw [if_neg c4] at H
    have c4b0 : decide (100 < (l0.length : Int)) = false := decide_eq_false c4
    have c4b1 : decide (100 < l0.length) = false := decide_eq_false (by omega)
    clear c4
    replace H := Option.bind_eq_some_iff.mp H
    obtain ⟨⟨t227, t228⟩, A70, H⟩ := H
    replace H : ((heap_Store.f l0 a1 a2).bind fun bt229 => (if (l0.length : Int) ≤ 16 then (if a1 ≥ 0 then (joinerylaw06_HeapBounds.j0 k l0 a1 t227 t228 bt229.2 (decide (a1 < (l0.length : Int)))) else (joinerylaw06_HeapBounds.j0 k l0 a1 t227 t228 bt229.2 false)) else (joinerylaw06_HeapBounds.j0 k l0 a1 t227 t228 bt229.2 false))) = some r := H
    have A7 := Aside0.mk A70
    clear A70
    replace H := Option.bind_eq_some_iff.mp H
    obtain ⟨⟨t229, t230⟩, A80, H⟩ := H
    replace H : (if (l0.length : Int) ≤ 16 then (if a1 ≥ 0 then (joinerylaw06_HeapBounds.j0 k l0 a1 t227 t228 t230 (decide (a1 < (l0.length : Int)))) else (joinerylaw06_HeapBounds.j0 k l0 a1 t227 t228 t230 false)) else (joinerylaw06_HeapBounds.j0 k l0 a1 t227 t228 t230 false)) = some r := H
    have A8 := Aside0.mk A80
    clear A80
    have HC9 := Aside0.mk H
    clear H
    go_enter Try.func8, Try.ntmps8
    go_upto_region 5 with (first | ((with_reducible refine gate_callee (f := 10) rfl ?_); refine goesL_ (some 19) rfl rfl Try.func10 (by kernel_rfl) rfl #[.slice A0 l0.length c0, .int .i64 a1] rfl (by (try simp only [List.map_toArray, List.map_cons, List.map_nil]); first | done | rfl | (simp only [List.length_drop, List.length_take]; rfl)) ?_; (with_reducible refine (heap_Load.calls _ _ l0 a1 t227 t228 _ ?side1 ?side2 A7.out).mono ?_); (case side1 => repeat (first | exact HR0.out | (with_reducible refine Kd.C_alloc ?_ _) | (with_reducible refine Kd.C_drewN ?_ _) | (with_reducible refine Kd.C_drew ?_))); (case side2 => exact HC0.out); rintro e w' ⟨rfl, ⟨nd, rfl⟩⟩; refine ⟨_, rfl, ?_⟩) | ((with_reducible refine gate_callee (f := 12) rfl ?_); refine goesL_ (some 26) rfl rfl Try.func12 (by kernel_rfl) rfl #[.slice A0 l0.length c0, .int .i64 a1, .int .i64 a2] rfl (by (try simp only [List.map_toArray, List.map_cons, List.map_nil]); first | done | rfl | (simp only [List.length_drop, List.length_take]; rfl)) ?_; (with_reducible refine (heap_Store.calls _ _ l0 a1 a2 t229 t230 _ ?side1 ?side2 A8.out).mono ?_); (case side1 => repeat (first | exact HR0.out | (with_reducible refine Kd.C_alloc ?_ _) | (with_reducible refine Kd.C_drewN ?_ _) | (with_reducible refine Kd.C_drew ?_))); (case side2 => exact HC0.out); rintro e w10 ⟨v231, rfl, ho0, hb⟩; refine ⟨_, rfl, ?_⟩; have n0_ := Aside0.mk (Kd.R_lower ho0 (below_size (by repeat (first | (with_reducible first | exact HB.out | apply below_alloc | apply pw_below_drewN | apply below_drew1) | exact HB.out)))); have n1_ := Aside0.mk (below_step (by repeat (first | (with_reducible first | exact HB.out | apply below_alloc | apply pw_below_drewN | apply below_drew1) | exact HB.out)) hb); clear HB; have HO232 := n0_; have HB := n1_; clear n0_ n1_; (try clear hb); (try clear hb2); (try clear hk); (try clear hi); (try clear ho0)))
    (try simp only [Act.put, List.setIfInBounds_toArray, List.set_cons_zero, List.set_cons_succ])
    go_cut [11] (fun v11 wc => ∃ (kq : Nat) (x11_8 : Bool), v11 = .bool x11_8 ∧ Aside0 (joinerylaw06_HeapBounds.j0 kq l0 a1 t227 t228 t230 x11_8 = some r) ∧ Aside0 (kq ≤ k) ∧ Aside0 (Below w.heap.size w wc))
    case first =>
      have H := HC9.out
      clear HC9
      by_cases c11 : (l0.length : Int) ≤ 16
      · rw [if_pos c11] at H
        have c11b0 : decide ((l0.length : Int) ≤ 16) = true := decide_eq_true c11
        have c11b1 : decide (l0.length ≤ 16) = true := decide_eq_true (by omega)
        clear c11
        (first | rw [c11b0] | (simp only [i64_w, i32_w]; rw [c11b0]) | skip)
        by_cases c12 : a1 ≥ 0
        · rw [if_pos c12] at H
          have c12b0 : decide (0 ≤ a1) = true := decide_eq_true c12
          clear c12
          have H' := Aside0.mk H
          clear H
          go_wp2
          go_meet
          case rel => exact ⟨_, (decide (a1 < (l0.length : Int))), (by first | rfl | (simp; done) | (simp [*]; done)), H', ⟨by first | omega | exact Nat.le_refl _⟩, ⟨by repeat (first | (with_reducible first | exact HB.out | apply below_alloc | apply pw_below_drewN | apply below_drew1) | exact HB.out)⟩⟩
        · rw [if_neg c12] at H
          have c12b0 : decide (0 ≤ a1) = false := decide_eq_false c12
          clear c12
          have H' := Aside0.mk H
          clear H
          go_wp2
          go_meet
          case rel => exact ⟨_, (false), (by first | rfl | (simp; done) | (simp [*]; done)), H', ⟨by first | omega | exact Nat.le_refl _⟩, ⟨by repeat (first | (with_reducible first | exact HB.out | apply below_alloc | apply pw_below_drewN | apply below_drew1) | exact HB.out)⟩⟩
      · rw [if_neg c11] at H
        have c11b0 : decide ((l0.length : Int) ≤ 16) = false := decide_eq_false c11
        have c11b1 : decide (l0.length ≤ 16) = false := decide_eq_false (by omega)
        clear c11
        (first | rw [c11b0] | (simp only [i64_w, i32_w]; rw [c11b0]) | skip)
        have H' := Aside0.mk H
        clear H
        go_wp2
        go_meet
        case rel => exact ⟨_, (false), (by first | rfl | (simp; done) | (simp [*]; done)), H', ⟨by first | omega | exact Nat.le_refl _⟩, ⟨by repeat (first | (with_reducible first | exact HB.out | apply below_alloc | apply pw_below_drewN | apply below_drew1) | exact HB.out)⟩⟩
    case rest =>
      clear HC9
      try clear c1
      try clear p2
      try clear c4
      try clear c4b0
      try clear c4b1
      try clear c8
      try clear c9
      try clear c10
      try clear c11
      try clear c11b0
      try clear c11b1
      try clear c12
      try clear c12b0
      obtain ⟨kq, x11_8, rfl, HA, HJ8, HB⟩ := hcut
      cases kq with
      | zero => exact absurd HA.out (by simp [joinerylaw06_HeapBounds.j0])
      | succ kj8 =>
        have H := HA.out
        clear HA
        simp only [joinerylaw06_HeapBounds.j0] at H
        by_cases c13 : x11_8 = true
        · subst c13
          have H1 : (if 0 ≤ a1 then (if a1 < (l0.length : Int) then (if t227 = (rd l0 a1) then (if t228 = 0 then (if t230 = 0 then ((joinerylaw06_knows.f kj8).bind fun t234 => (some t234)) else (some false)) else (some false)) else (some false)) else (none)) else (none)) = some r := by rw [if_pos rfl] at H; exact H
          clear H
          have H := H1
          clear H1
          by_cases c14 : 0 ≤ a1
          · rw [if_pos c14] at H
            have c14b0 : decide (0 ≤ a1) = true := decide_eq_true c14
            clear c14
            by_cases c15 : a1 < (l0.length : Int)
            · rw [if_pos c15] at H
              have c15b0 : decide (a1 < (l0.length : Int)) = true := decide_eq_true c15
              clear c15
              by_cases c16 : t227 = (rd l0 a1)
              · rw [if_pos c16] at H
                have c16b0 : (t227 == (rd l0 a1)) = true := beq_iff_eq.mpr c16
                have c16b1 : (t227 != (rd l0 a1)) = false := bne_eq_false_iff_eq.mpr c16
                clear c16
                by_cases c17 : t228 = 0
                · rw [if_pos c17] at H
                  have c17b0 : (t228 == 0) = true := beq_iff_eq.mpr c17
                  have c17b1 : (t228 != 0) = false := bne_eq_false_iff_eq.mpr c17
                  clear c17
                  by_cases c18 : t230 = 0
                  · rw [if_pos c18] at H
                    have c18b0 : (t230 == 0) = true := beq_iff_eq.mpr c18
                    have c18b1 : (t230 != 0) = false := bne_eq_false_iff_eq.mpr c18
                    clear c18
                    replace H := Option.bind_eq_some_iff.mp H
                    obtain ⟨t234, A190, H⟩ := H
                    replace H : (some t234) = some r := H
                    have A19 := Aside0.mk A190
                    clear A190
                    obtain rfl := Option.some.inj H
                    have p233 : 0 ≤ (a1 : Int) := of_decide_eq_true (by first | (with_reducible assumption) | assumption)
                    have q233 : a1 < (l0.length : Int) := of_decide_eq_true (by first | (with_reducible assumption) | assumption)
                    obtain ⟨ad233, e233, hx233_0⟩ := Kd.at_int HR0.out a1 p233 q233
                    cases e233
                    replace hx233_0 := (HB.out.cell (World.block_lt_of_cell? w _ hx233_0)).trans hx233_0
                    replace p233 := eq_true p233
                    replace q233 := eq_true q233
                    go_wp2_with (first | (go_at_call 9; (with_reducible refine (joinerylaw06_knows.calls kj8  t234 _ A19.out).mono ?_); rintro e w20 ⟨rfl, hb⟩; have n0_ := Aside0.mk (below_step (by repeat (first | (with_reducible first | exact HB.out | apply below_alloc | apply pw_below_drewN | apply below_drew1) | exact HB.out)) hb); clear HB; have HB := n0_; clear n0_; (try clear hb); (try clear hb2); (try clear hk); (try clear hi)))
                    go_ret
                    exact ⟨by first | rfl | (simp [errW_none, errW_some] <;> rfl) | (simp [*, errW_none, errW_some] <;> rfl), by repeat (first | (with_reducible first | exact HB.out | apply below_alloc | apply pw_below_drewN | apply below_drew1) | exact HB.out)⟩
                  · rw [if_neg c18] at H
                    have c18b0 : (t230 == 0) = false := beq_eq_false_iff_ne.mpr c18
                    have c18b1 : (t230 != 0) = true := bne_iff_ne.mpr c18
                    obtain rfl := Option.some.inj H
                    have p233 : 0 ≤ (a1 : Int) := of_decide_eq_true (by first | (with_reducible assumption) | assumption)
                    have q233 : a1 < (l0.length : Int) := of_decide_eq_true (by first | (with_reducible assumption) | assumption)
                    obtain ⟨ad233, e233, hx233_0⟩ := Kd.at_int HR0.out a1 p233 q233
                    cases e233
                    replace hx233_0 := (HB.out.cell (World.block_lt_of_cell? w _ hx233_0)).trans hx233_0
                    replace p233 := eq_true p233
                    replace q233 := eq_true q233
                    go_wp2
                    go_ret
                    exact ⟨by first | rfl | (simp [errW_none, errW_some] <;> rfl) | (simp [*, errW_none, errW_some] <;> rfl), by repeat (first | (with_reducible first | exact HB.out | apply below_alloc | apply pw_below_drewN | apply below_drew1) | exact HB.out)⟩
                · rw [if_neg c17] at H
                  have c17b0 : (t228 == 0) = false := beq_eq_false_iff_ne.mpr c17
                  have c17b1 : (t228 != 0) = true := bne_iff_ne.mpr c17
                  obtain rfl := Option.some.inj H
                  have p233 : 0 ≤ (a1 : Int) := of_decide_eq_true (by first | (with_reducible assumption) | assumption)
                  have q233 : a1 < (l0.length : Int) := of_decide_eq_true (by first | (with_reducible assumption) | assumption)
                  obtain ⟨ad233, e233, hx233_0⟩ := Kd.at_int HR0.out a1 p233 q233
                  cases e233
                  replace hx233_0 := (HB.out.cell (World.block_lt_of_cell? w _ hx233_0)).trans hx233_0
                  replace p233 := eq_true p233
                  replace q233 := eq_true q233
                  go_wp2
                  go_ret
                  exact ⟨by first | rfl | (simp [errW_none, errW_some] <;> rfl) | (simp [*, errW_none, errW_some] <;> rfl), by repeat (first | (with_reducible first | exact HB.out | apply below_alloc | apply pw_below_drewN | apply below_drew1) | exact HB.out)⟩
              · rw [if_neg c16] at H
                have c16b0 : (t227 == (rd l0 a1)) = false := beq_eq_false_iff_ne.mpr c16
                have c16b1 : (t227 != (rd l0 a1)) = true := bne_iff_ne.mpr c16
                obtain rfl := Option.some.inj H
                have p233 : 0 ≤ (a1 : Int) := of_decide_eq_true (by first | (with_reducible assumption) | assumption)
                have q233 : a1 < (l0.length : Int) := of_decide_eq_true (by first | (with_reducible assumption) | assumption)
                obtain ⟨ad233, e233, hx233_0⟩ := Kd.at_int HR0.out a1 p233 q233
                cases e233
                replace hx233_0 := (HB.out.cell (World.block_lt_of_cell? w _ hx233_0)).trans hx233_0
                replace p233 := eq_true p233
                replace q233 := eq_true q233
                go_wp2
                go_ret
                exact ⟨by first | rfl | (simp [errW_none, errW_some] <;> rfl) | (simp [*, errW_none, errW_some] <;> rfl), by repeat (first | (with_reducible first | exact HB.out | apply below_alloc | apply pw_below_drewN | apply below_drew1) | exact HB.out)⟩
            · rw [if_neg c15] at H
              exact absurd H (by simp)
          · rw [if_neg c14] at H
            exact absurd H (by simp)
        · replace c13 := Bool.eq_false_iff.mpr c13
          subst c13
          have H1 : (if t227 = 0 then (if t228 = 4 then (if t230 = 4 then ((joinerylaw06_knows.f kj8).bind fun t235 => (some t235)) else (some false)) else (some false)) else (some false)) = some r := by rw [if_neg (show ¬ (false = true) by decide)] at H; exact H
          clear H
          have H := H1
          clear H1
          by_cases c21 : t227 = 0
          · rw [if_pos c21] at H
            have c21b0 : (t227 == 0) = true := beq_iff_eq.mpr c21
            have c21b1 : (t227 != 0) = false := bne_eq_false_iff_eq.mpr c21
            clear c21
            by_cases c22 : t228 = 4
            · rw [if_pos c22] at H
              have c22b0 : (t228 == 4) = true := beq_iff_eq.mpr c22
              have c22b1 : (t228 != 4) = false := bne_eq_false_iff_eq.mpr c22
              clear c22
              by_cases c23 : t230 = 4
              · rw [if_pos c23] at H
                have c23b0 : (t230 == 4) = true := beq_iff_eq.mpr c23
                have c23b1 : (t230 != 4) = false := bne_eq_false_iff_eq.mpr c23
                clear c23
                replace H := Option.bind_eq_some_iff.mp H
                obtain ⟨t235, A240, H⟩ := H
                replace H : (some t235) = some r := H
                have A24 := Aside0.mk A240
                clear A240
                obtain rfl := Option.some.inj H
                go_wp2_with (first | (go_at_call 9; (with_reducible refine (joinerylaw06_knows.calls kj8  t235 _ A24.out).mono ?_); rintro e w25 ⟨rfl, hb⟩; have n0_ := Aside0.mk (below_step (by repeat (first | (with_reducible first | exact HB.out | apply below_alloc | apply pw_below_drewN | apply below_drew1) | exact HB.out)) hb); clear HB; have HB := n0_; clear n0_; (try clear hb); (try clear hb2); (try clear hk); (try clear hi)))
                go_ret
                exact ⟨by first | rfl | (simp [errW_none, errW_some] <;> rfl) | (simp [*, errW_none, errW_some] <;> rfl), by repeat (first | (with_reducible first | exact HB.out | apply below_alloc | apply pw_below_drewN | apply below_drew1) | exact HB.out)⟩
              · rw [if_neg c23] at H
                have c23b0 : (t230 == 4) = false := beq_eq_false_iff_ne.mpr c23
                have c23b1 : (t230 != 4) = true := bne_iff_ne.mpr c23
                obtain rfl := Option.some.inj H
                go_wp2
                go_ret
                exact ⟨by first | rfl | (simp [errW_none, errW_some] <;> rfl) | (simp [*, errW_none, errW_some] <;> rfl), by repeat (first | (with_reducible first | exact HB.out | apply below_alloc | apply pw_below_drewN | apply below_drew1) | exact HB.out)⟩
            · rw [if_neg c22] at H
              have c22b0 : (t228 == 4) = false := beq_eq_false_iff_ne.mpr c22
              have c22b1 : (t228 != 4) = true := bne_iff_ne.mpr c22
              obtain rfl := Option.some.inj H
              go_wp2
              go_ret
              exact ⟨by first | rfl | (simp [errW_none, errW_some] <;> rfl) | (simp [*, errW_none, errW_some] <;> rfl), by repeat (first | (with_reducible first | exact HB.out | apply below_alloc | apply pw_below_drewN | apply below_drew1) | exact HB.out)⟩
          · rw [if_neg c21] at H
            have c21b0 : (t227 == 0) = false := beq_eq_false_iff_ne.mpr c21
            have c21b1 : (t227 != 0) = true := bne_iff_ne.mpr c21
            obtain rfl := Option.some.inj H
            go_wp2
            go_ret
            exact ⟨by first | rfl | (simp [errW_none, errW_some] <;> rfl) | (simp [*, errW_none, errW_some] <;> rfl), by repeat (first | (with_reducible first | exact HB.out | apply below_alloc | apply pw_below_drewN | apply below_drew1) | exact HB.out)⟩

/-- THE ONE PURE STATEMENT of joinerylaw06_HeapBounds: yours. -/
def joinerylaw06_HeapBounds.Pure : Prop := ∀ (l0 : List Int) (a1 : Int) (a2 : Int), l0.length ≤ maxLen → l0.length * 8 ≤ 140737488351232 → (∀ x ∈ l0, (Lit.int .i64 x).wf = true) → (Lit.int .i64 a1).wf = true → (Lit.int .i64 a2).wf = true → ∃ k, joinerylaw06_HeapBounds.f k l0 a1 a2 = some true
theorem joinerylaw06_HeapBounds.walk (P : joinerylaw06_HeapBounds.Pure) (a0 : Option Addr) (len0 cap0 : Nat) (z0 : List Int) (a1 : Int) (a2 : Int) (w : World) (w0 : (a0 = none ∧ len0 = 0 ∧ cap0 = 0 ∧ z0 = []) ∨ ∃ x, a0 = some x ∧ len0 ≤ cap0 ∧ cap0 ≤ maxLen ∧ z0.length = cap0 ∧ (∀ i, i < z0.length → w.cell? (x.add i) = some (.int .i64 (z0.getD i 0))) ∧ ∀ n ∈ z0, (Lit.int .i64 n).wf = true) (y0 : len0 * 8 ≤ 140737488351232) (w1 : (Lit.int .i64 a1).wf = true) (w2 : (Lit.int .i64 a2).wf = true) :
    Calls Try.prog 8 #[.slice a0 len0 cap0, .int .i64 a1, .int .i64 a2] w fun e w' => e = .returned (.bool true) ∧ Below w.heap.size w w' := by
  obtain ⟨l0, rfl, hr0, hm0, hw0, hc0⟩ := ReadsInt.ofRowC w0
  obtain ⟨k, h⟩ := P l0 a1 a2 hm0 y0 hw0 w1 w2
  refine (joinerylaw06_HeapBounds.calls k _ _ l0 a1 a2 true w (Kd.C_of_reads (d := (0 : Int)) (h1 := fun _ => rfl) hr0) hc0 h).mono ?_
  rintro e w' ⟨rfl, hd⟩
  exact ⟨rfl, hd⟩

end Go.Proofs.Ytnjnfihhhoppmaa.Heap
