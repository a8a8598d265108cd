/- Of the functions that the laws of num and loc reach: for each a Lean function, and that the Go code comes to its answers. Begun as a text of the kit's print tool. Conditions: each theorem's own. -/
import Derived.Test.YtolacdlobopoiaaNum0
import Derived.Test.YtolacdlobopoiaaLoc
import Derived.Test.YtolacdlobopoiaaDo
import Derived.Test.YtolacdlobopoiaaNum1
namespace Go.Proofs.Ytolacdlobopoiaa.Num
open Go.RowKit Go.Proofs.YtolacdlobopoiaaW.PrintWords Go.Proofs.YtolacdlobopoiaaW.PrintLast Go.Proofs.YtolacdlobopoiaaW.PrintMore
attribute [local go_sem] max2_int min2_int max_two min_two max_three min_three max_four min_four   -- for this text's walks alone
set_option linter.unusedVariables false
set_option linter.unusedSimpArgs false

/-! ### joinerylaw02_LocFew: function 7 -/
def joinerylaw02_LocFew.f (a0 : ByteArray) : Option (Bool) := if (a0.size : Int) > 1000 then ((joinerylaw02_knows.f).bind fun t184 => (some t184)) else ((loc_Parse.f a0).bind fun bt185 => (if bt185.2 = 0 then (if (a0.size : Int) < 2 then (some false) else (if (a0.size : Int) > 3 then (some false) else (if bt185.1 < 0 then (some false) else (if bt185.1 > 23 then (some false) else (if 0 < (a0.size : Int) then (if (bt a0 0) = 114 then (if (a0.size : Int) = 2 then (if 1 < (a0.size : Int) then (if bt185.1 = (wrap64 ((wrap64 (bt a0 1)) - 48)) then ((joinerylaw02_knows.f).bind fun t187 => (some t187)) else (if (bt a0 0) = 115 then (if bt185.1 = (wrap64 ((wrap64 (bt a0 1)) - 40)) then ((joinerylaw02_knows.f).bind fun t188 => (some t188)) else (if (a0.size : Int) = 3 then (if (bt a0 1) = 49 then (if 2 < (a0.size : Int) then (if bt185.1 = (wrap64 ((wrap64 (bt a0 2)) - 30)) then ((joinerylaw02_knows.f).bind fun t189 => (some t189)) else (some false)) else (none)) else (some false)) else (some false))) else (some false))) else (none)) else (if (bt a0 0) = 115 then (if (a0.size : Int) = 3 then (if 1 < (a0.size : Int) then (if (bt a0 1) = 49 then (if 2 < (a0.size : Int) then (if bt185.1 = (wrap64 ((wrap64 (bt a0 2)) - 30)) then ((joinerylaw02_knows.f).bind fun t190 => (some t190)) else (some false)) else (none)) else (some false)) else (none)) else (some false)) else (some false))) else (if (bt a0 0) = 115 then (if (a0.size : Int) = 2 then (if 1 < (a0.size : Int) then (if bt185.1 = (wrap64 ((wrap64 (bt a0 1)) - 40)) then ((joinerylaw02_knows.f).bind fun t191 => (some t191)) else (if (a0.size : Int) = 3 then (if (bt a0 1) = 49 then (if 2 < (a0.size : Int) then (if bt185.1 = (wrap64 ((wrap64 (bt a0 2)) - 30)) then ((joinerylaw02_knows.f).bind fun t192 => (some t192)) else (some false)) else (none)) else (some false)) else (some false))) else (none)) else (if (a0.size : Int) = 3 then (if 1 < (a0.size : Int) then (if (bt a0 1) = 49 then (if 2 < (a0.size : Int) then (if bt185.1 = (wrap64 ((wrap64 (bt a0 2)) - 30)) then ((joinerylaw02_knows.f).bind fun t193 => (some t193)) else (some false)) else (none)) else (some false)) else (none)) else (some false))) else (some false))) else (none)))))) else (if bt185.1 = 0 then ((joinerylaw02_knows.f).bind fun t194 => (some t194)) else (some false))))
set_option maxHeartbeats 8000000 in
set_option maxRecDepth 100000 in
theorem joinerylaw02_LocFew.calls (a0 : ByteArray) (r : Bool) (w : World) (h : joinerylaw02_LocFew.f a0 = some r) :
    Calls Try.prog 7 #[.string a0] w fun e w' => e = .returned (.bool r) ∧ Below w.heap.size w w' := by
  have HB := Aside0.mk (Below.refl w.heap.size w)
  have H : (if (a0.size : Int) > 1000 then ((joinerylaw02_knows.f).bind fun t184 => (some t184)) else ((loc_Parse.f a0).bind fun bt185 => (if bt185.2 = 0 then (if (a0.size : Int) < 2 then (some false) else (if (a0.size : Int) > 3 then (some false) else (if bt185.1 < 0 then (some false) else (if bt185.1 > 23 then (some false) else (if 0 < (a0.size : Int) then (if (bt a0 0) = 114 then (if (a0.size : Int) = 2 then (if 1 < (a0.size : Int) then (if bt185.1 = (wrap64 ((wrap64 (bt a0 1)) - 48)) then ((joinerylaw02_knows.f).bind fun t187 => (some t187)) else (if (bt a0 0) = 115 then (if bt185.1 = (wrap64 ((wrap64 (bt a0 1)) - 40)) then ((joinerylaw02_knows.f).bind fun t188 => (some t188)) else (if (a0.size : Int) = 3 then (if (bt a0 1) = 49 then (if 2 < (a0.size : Int) then (if bt185.1 = (wrap64 ((wrap64 (bt a0 2)) - 30)) then ((joinerylaw02_knows.f).bind fun t189 => (some t189)) else (some false)) else (none)) else (some false)) else (some false))) else (some false))) else (none)) else (if (bt a0 0) = 115 then (if (a0.size : Int) = 3 then (if 1 < (a0.size : Int) then (if (bt a0 1) = 49 then (if 2 < (a0.size : Int) then (if bt185.1 = (wrap64 ((wrap64 (bt a0 2)) - 30)) then ((joinerylaw02_knows.f).bind fun t190 => (some t190)) else (some false)) else (none)) else (some false)) else (none)) else (some false)) else (some false))) else (if (bt a0 0) = 115 then (if (a0.size : Int) = 2 then (if 1 < (a0.size : Int) then (if bt185.1 = (wrap64 ((wrap64 (bt a0 1)) - 40)) then ((joinerylaw02_knows.f).bind fun t191 => (some t191)) else (if (a0.size : Int) = 3 then (if (bt a0 1) = 49 then (if 2 < (a0.size : Int) then (if bt185.1 = (wrap64 ((wrap64 (bt a0 2)) - 30)) then ((joinerylaw02_knows.f).bind fun t192 => (some t192)) else (some false)) else (none)) else (some false)) else (some false))) else (none)) else (if (a0.size : Int) = 3 then (if 1 < (a0.size : Int) then (if (bt a0 1) = 49 then (if 2 < (a0.size : Int) then (if bt185.1 = (wrap64 ((wrap64 (bt a0 2)) - 30)) then ((joinerylaw02_knows.f).bind fun t193 => (some t193)) else (some false)) else (none)) else (some false)) else (none)) else (some false))) else (some false))) else (none)))))) else (if bt185.1 = 0 then ((joinerylaw02_knows.f).bind fun t194 => (some t194)) else (some false))))) = some r := h
  clear h
  by_cases c2 : (a0.size : Int) > 1000
  · rw [if_pos c2] at H
    have c2b0 : decide (1000 < (a0.size : Int)) = true := decide_eq_true c2
    have c2b1 : decide (1000 < a0.size) = true := decide_eq_true (by omega)
    clear c2
    replace H := Option.bind_eq_some_iff.mp H
    obtain ⟨t184, A30, H⟩ := H
    replace H : (some t184) = some r := H
    have A3 := Aside0.mk A30
    clear A30
    obtain rfl := Option.some.inj H
    go_enter Try.func7, Try.ntmps7
    go_wp2_with (first | ((with_reducible refine gate_callee (f := 23) rfl ?_); refine goesL_ (some 8) rfl rfl Try.func23 (by kernel_rfl) rfl #[] rfl (by (try simp only [List.map_toArray, List.map_cons, List.map_nil]); first | done | rfl | (simp only [List.length_drop, List.length_take]; rfl)) ?_; (with_reducible refine (joinerylaw02_knows.calls  t184 _ A3.out).mono ?_); rintro e w4 ⟨rfl, hb⟩; refine ⟨_, rfl, ?_⟩; have n0_ := Aside0.mk (below_step (by repeat (first | (with_reducible first | exact HB.out | apply below_alloc | apply pw_below_drewN | apply below_drew1) | exact HB.out)) hb); clear HB; have HB := n0_; clear n0_; (try clear hb); (try clear hb2); (try clear hk); (try clear hi)))
    go_ret
    exact ⟨by first | rfl | (simp [errW_none, errW_some] <;> rfl) | (simp [*, errW_none, errW_some] <;> rfl), by repeat (first | (with_reducible first | exact HB.out | apply below_alloc | apply pw_below_drewN | apply below_drew1) | exact HB.out)⟩
  · rw [if_neg c2] at H
    have c2b0 : decide (1000 < (a0.size : Int)) = false := decide_eq_false c2
    have c2b1 : decide (1000 < a0.size) = false := decide_eq_false (by omega)
    clear c2
    replace H := Option.bind_eq_some_iff.mp H
    obtain ⟨⟨t185, t186⟩, A50, H⟩ := H
    replace H : (if t186 = 0 then (if (a0.size : Int) < 2 then (some false) else (if (a0.size : Int) > 3 then (some false) else (if t185 < 0 then (some false) else (if t185 > 23 then (some false) else (if 0 < (a0.size : Int) then (if (bt a0 0) = 114 then (if (a0.size : Int) = 2 then (if 1 < (a0.size : Int) then (if t185 = (wrap64 ((wrap64 (bt a0 1)) - 48)) then ((joinerylaw02_knows.f).bind fun t187 => (some t187)) else (if (bt a0 0) = 115 then (if t185 = (wrap64 ((wrap64 (bt a0 1)) - 40)) then ((joinerylaw02_knows.f).bind fun t188 => (some t188)) else (if (a0.size : Int) = 3 then (if (bt a0 1) = 49 then (if 2 < (a0.size : Int) then (if t185 = (wrap64 ((wrap64 (bt a0 2)) - 30)) then ((joinerylaw02_knows.f).bind fun t189 => (some t189)) else (some false)) else (none)) else (some false)) else (some false))) else (some false))) else (none)) else (if (bt a0 0) = 115 then (if (a0.size : Int) = 3 then (if 1 < (a0.size : Int) then (if (bt a0 1) = 49 then (if 2 < (a0.size : Int) then (if t185 = (wrap64 ((wrap64 (bt a0 2)) - 30)) then ((joinerylaw02_knows.f).bind fun t190 => (some t190)) else (some false)) else (none)) else (some false)) else (none)) else (some false)) else (some false))) else (if (bt a0 0) = 115 then (if (a0.size : Int) = 2 then (if 1 < (a0.size : Int) then (if t185 = (wrap64 ((wrap64 (bt a0 1)) - 40)) then ((joinerylaw02_knows.f).bind fun t191 => (some t191)) else (if (a0.size : Int) = 3 then (if (bt a0 1) = 49 then (if 2 < (a0.size : Int) then (if t185 = (wrap64 ((wrap64 (bt a0 2)) - 30)) then ((joinerylaw02_knows.f).bind fun t192 => (some t192)) else (some false)) else (none)) else (some false)) else (some false))) else (none)) else (if (a0.size : Int) = 3 then (if 1 < (a0.size : Int) then (if (bt a0 1) = 49 then (if 2 < (a0.size : Int) then (if t185 = (wrap64 ((wrap64 (bt a0 2)) - 30)) then ((joinerylaw02_knows.f).bind fun t193 => (some t193)) else (some false)) else (none)) else (some false)) else (none)) else (some false))) else (some false))) else (none)))))) else (if t185 = 0 then ((joinerylaw02_knows.f).bind fun t194 => (some t194)) else (some false))) = some r := H
    have A5 := Aside0.mk A50
    clear A50
    by_cases c6 : t186 = 0
    · rw [if_pos c6] at H
      have c6b0 : (t186 == 0) = true := beq_iff_eq.mpr c6
      have c6b1 : (t186 != 0) = false := bne_eq_false_iff_eq.mpr c6
      clear c6
      by_cases c7 : (a0.size : Int) < 2
      · rw [if_pos c7] at H
        have c7b0 : decide ((a0.size : Int) < 2) = true := decide_eq_true c7
        have c7b1 : decide (a0.size < 2) = true := decide_eq_true (by omega)
        clear c7
        obtain rfl := Option.some.inj H
        go_enter Try.func7, Try.ntmps7
        go_wp2_with (first | ((with_reducible refine gate_callee (f := 25) rfl ?_); refine goesL_ (some 11) rfl rfl Try.func25 (by kernel_rfl) rfl #[.string a0] rfl (by (try simp only [List.map_toArray, List.map_cons, List.map_nil]); first | done | rfl | (simp only [List.length_drop, List.length_take]; rfl)) ?_; (with_reducible refine (loc_Parse.calls a0 t185 t186 _ A5.out).mono ?_); rintro e w8 ⟨rfl, hb⟩; refine ⟨_, rfl, ?_⟩; have n0_ := Aside0.mk (below_step (by repeat (first | (with_reducible first | exact HB.out | apply below_alloc | apply pw_below_drewN | apply below_drew1) | exact HB.out)) hb); clear HB; have HB := n0_; clear n0_; (try clear hb); (try clear hb2); (try clear hk); (try clear hi)))
        go_ret
        exact ⟨by first | rfl | (simp [errW_none, errW_some] <;> rfl) | (simp [*, errW_none, errW_some] <;> rfl), by repeat (first | (with_reducible first | exact HB.out | apply below_alloc | apply pw_below_drewN | apply below_drew1) | exact HB.out)⟩
      · rw [if_neg c7] at H
        have c7b0 : decide ((a0.size : Int) < 2) = false := decide_eq_false c7
        have c7b1 : decide (a0.size < 2) = false := decide_eq_false (by omega)
        clear c7
        by_cases c9 : (a0.size : Int) > 3
        · rw [if_pos c9] at H
          have c9b0 : decide (3 < (a0.size : Int)) = true := decide_eq_true c9
          have c9b1 : decide (3 < a0.size) = true := decide_eq_true (by omega)
          clear c9
          obtain rfl := Option.some.inj H
          go_enter Try.func7, Try.ntmps7
          go_wp2_with (first | ((with_reducible refine gate_callee (f := 25) rfl ?_); refine goesL_ (some 11) rfl rfl Try.func25 (by kernel_rfl) rfl #[.string a0] rfl (by (try simp only [List.map_toArray, List.map_cons, List.map_nil]); first | done | rfl | (simp only [List.length_drop, List.length_take]; rfl)) ?_; (with_reducible refine (loc_Parse.calls a0 t185 t186 _ A5.out).mono ?_); rintro e w10 ⟨rfl, hb⟩; refine ⟨_, rfl, ?_⟩; have n0_ := Aside0.mk (below_step (by repeat (first | (with_reducible first | exact HB.out | apply below_alloc | apply pw_below_drewN | apply below_drew1) | exact HB.out)) hb); clear HB; have HB := n0_; clear n0_; (try clear hb); (try clear hb2); (try clear hk); (try clear hi)))
          go_ret
          exact ⟨by first | rfl | (simp [errW_none, errW_some] <;> rfl) | (simp [*, errW_none, errW_some] <;> rfl), by repeat (first | (with_reducible first | exact HB.out | apply below_alloc | apply pw_below_drewN | apply below_drew1) | exact HB.out)⟩
        · rw [if_neg c9] at H
          have c9b0 : decide (3 < (a0.size : Int)) = false := decide_eq_false c9
          have c9b1 : decide (3 < a0.size) = false := decide_eq_false (by omega)
          clear c9
          by_cases c11 : t185 < 0
          · rw [if_pos c11] at H
            have c11b0 : decide (t185 < 0) = true := decide_eq_true c11
            clear c11
            obtain rfl := Option.some.inj H
            go_enter Try.func7, Try.ntmps7
            go_wp2_with (first | ((with_reducible refine gate_callee (f := 25) rfl ?_); refine goesL_ (some 11) rfl rfl Try.func25 (by kernel_rfl) rfl #[.string a0] rfl (by (try simp only [List.map_toArray, List.map_cons, List.map_nil]); first | done | rfl | (simp only [List.length_drop, List.length_take]; rfl)) ?_; (with_reducible refine (loc_Parse.calls a0 t185 t186 _ A5.out).mono ?_); rintro e w12 ⟨rfl, hb⟩; refine ⟨_, rfl, ?_⟩; have n0_ := Aside0.mk (below_step (by repeat (first | (with_reducible first | exact HB.out | apply below_alloc | apply pw_below_drewN | apply below_drew1) | exact HB.out)) hb); clear HB; have HB := n0_; clear n0_; (try clear hb); (try clear hb2); (try clear hk); (try clear hi)))
            go_ret
            exact ⟨by first | rfl | (simp [errW_none, errW_some] <;> rfl) | (simp [*, errW_none, errW_some] <;> rfl), by repeat (first | (with_reducible first | exact HB.out | apply below_alloc | apply pw_below_drewN | apply below_drew1) | exact HB.out)⟩
          · rw [if_neg c11] at H
            have c11b0 : decide (t185 < 0) = false := decide_eq_false c11
            clear c11
            by_cases c13 : t185 > 23
            · rw [if_pos c13] at H
              have c13b0 : decide (23 < t185) = true := decide_eq_true c13
              clear c13
              obtain rfl := Option.some.inj H
              go_enter Try.func7, Try.ntmps7
              go_wp2_with (first | ((with_reducible refine gate_callee (f := 25) rfl ?_); refine goesL_ (some 11) rfl rfl Try.func25 (by kernel_rfl) rfl #[.string a0] rfl (by (try simp only [List.map_toArray, List.map_cons, List.map_nil]); first | done | rfl | (simp only [List.length_drop, List.length_take]; rfl)) ?_; (with_reducible refine (loc_Parse.calls a0 t185 t186 _ A5.out).mono ?_); rintro e w14 ⟨rfl, hb⟩; refine ⟨_, rfl, ?_⟩; have n0_ := Aside0.mk (below_step (by repeat (first | (with_reducible first | exact HB.out | apply below_alloc | apply pw_below_drewN | apply below_drew1) | exact HB.out)) hb); clear HB; have HB := n0_; clear n0_; (try clear hb); (try clear hb2); (try clear hk); (try clear hi)))
              go_ret
              exact ⟨by first | rfl | (simp [errW_none, errW_some] <;> rfl) | (simp [*, errW_none, errW_some] <;> rfl), by repeat (first | (with_reducible first | exact HB.out | apply below_alloc | apply pw_below_drewN | apply below_drew1) | exact HB.out)⟩
            · rw [if_neg c13] at H
              have c13b0 : decide (23 < t185) = false := decide_eq_false c13
              clear c13
              by_cases c15 : 0 < (a0.size : Int)
              · rw [if_pos c15] at H
                have c15b0 : decide (0 < (a0.size : Int)) = true := decide_eq_true c15
                have c15b1 : decide (0 < a0.size) = true := decide_eq_true (by omega)
                clear c15
                by_cases c17 : (bt a0 0) = 114
                · rw [if_pos c17] at H
                  have c17b0 : ((bt a0 0) == 114) = true := beq_iff_eq.mpr c17
                  have c17b1 : ((bt a0 0) != 114) = false := bne_eq_false_iff_eq.mpr c17
                  clear c17
                  by_cases c18 : (a0.size : Int) = 2
                  · rw [if_pos c18] at H
                    have c18b0 : ((a0.size : Int) == 2) = true := beq_iff_eq.mpr c18
                    have c18b1 : ((a0.size : Int) != 2) = false := bne_eq_false_iff_eq.mpr c18
                    clear c18
                    by_cases c19 : 1 < (a0.size : Int)
                    · rw [if_pos c19] at H
                      have c19b0 : decide (1 < (a0.size : Int)) = true := decide_eq_true c19
                      have c19b1 : decide (1 < a0.size) = true := decide_eq_true (by omega)
                      clear c19
                      by_cases c21 : t185 = (wrap64 ((wrap64 (bt a0 1)) - 48))
                      · rw [if_pos c21] at H
                        have c21b0 : (t185 == (wrap64 ((wrap64 (bt a0 1)) - 48))) = true := beq_iff_eq.mpr c21
                        have c21b1 : (t185 != (wrap64 ((wrap64 (bt a0 1)) - 48))) = false := bne_eq_false_iff_eq.mpr c21
                        clear c21
                        replace H := Option.bind_eq_some_iff.mp H
                        obtain ⟨t187, A220, H⟩ := H
                        replace H : (some t187) = some r := H
                        have A22 := Aside0.mk A220
                        clear A220
                        obtain rfl := Option.some.inj H
                        go_enter Try.func7, Try.ntmps7
                        go_wp2_with (first | ((with_reducible refine gate_callee (f := 25) rfl ?_); refine goesL_ (some 11) rfl rfl Try.func25 (by kernel_rfl) rfl #[.string a0] rfl (by (try simp only [List.map_toArray, List.map_cons, List.map_nil]); first | done | rfl | (simp only [List.length_drop, List.length_take]; rfl)) ?_; (with_reducible refine (loc_Parse.calls a0 t185 t186 _ A5.out).mono ?_); rintro e w23 ⟨rfl, hb⟩; refine ⟨_, rfl, ?_⟩; have n0_ := Aside0.mk (below_step (by repeat (first | (with_reducible first | exact HB.out | apply below_alloc | apply pw_below_drewN | apply below_drew1) | exact HB.out)) hb); clear HB; have HB := n0_; clear n0_; (try clear hb); (try clear hb2); (try clear hk); (try clear hi); have p16 : 0 ≤ (0 : Int) := (by omega); have q16 : 0 < a0.size := (by have : (0 : Int) < (a0.size : Int) := of_decide_eq_true (by first | (with_reducible assumption) | assumption); omega); have hx16 : ∀ h : 0 < a0.size, ((a0[0]'h).toNat : Int) = bt a0 0 := bt_at a0 0; clear p16; have qi16 : (0 < (a0.size : Int)) = True := eq_true (of_decide_eq_true (by first | (with_reducible assumption) | assumption)); replace q16 := eq_true q16; have p20 : 0 ≤ (1 : Int) := (by omega); have q20 : 1 < a0.size := (by have : (1 : Int) < (a0.size : Int) := of_decide_eq_true (by first | (with_reducible assumption) | assumption); omega); have hx20 : ∀ h : 1 < a0.size, ((a0[1]'h).toNat : Int) = bt a0 1 := bt_at a0 1; clear p20; have qi20 : (1 < (a0.size : Int)) = True := eq_true (of_decide_eq_true (by first | (with_reducible assumption) | assumption)); replace q20 := eq_true q20) | (go_at_call 23; (with_reducible refine (joinerylaw02_knows.calls  t187 _ A22.out).mono ?_); rintro e w24 ⟨rfl, hb⟩; have n0_ := Aside0.mk (below_step (by repeat (first | (with_reducible first | exact HB.out | apply below_alloc | apply pw_below_drewN | apply below_drew1) | exact HB.out)) hb); clear HB; have HB := n0_; clear n0_; (try clear hb); (try clear hb2); (try clear hk); (try clear hi)))
                        go_ret
                        exact ⟨by first | rfl | (simp [errW_none, errW_some] <;> rfl) | (simp [*, errW_none, errW_some] <;> rfl), by repeat (first | (with_reducible first | exact HB.out | apply below_alloc | apply pw_below_drewN | apply below_drew1) | exact HB.out)⟩
                      · rw [if_neg c21] at H
                        have c21b0 : (t185 == (wrap64 ((wrap64 (bt a0 1)) - 48))) = false := beq_eq_false_iff_ne.mpr c21
                        have c21b1 : (t185 != (wrap64 ((wrap64 (bt a0 1)) - 48))) = true := bne_iff_ne.mpr c21
                        by_cases c26 : (bt a0 0) = 115
                        · rw [if_pos c26] at H
                          have c26b0 : ((bt a0 0) == 115) = true := beq_iff_eq.mpr c26
                          have c26b1 : ((bt a0 0) != 115) = false := bne_eq_false_iff_eq.mpr c26
                          clear c26
                          by_cases c28 : t185 = (wrap64 ((wrap64 (bt a0 1)) - 40))
                          · rw [if_pos c28] at H
                            have c28b0 : (t185 == (wrap64 ((wrap64 (bt a0 1)) - 40))) = true := beq_iff_eq.mpr c28
                            have c28b1 : (t185 != (wrap64 ((wrap64 (bt a0 1)) - 40))) = false := bne_eq_false_iff_eq.mpr c28
                            clear c28
                            replace H := Option.bind_eq_some_iff.mp H
                            obtain ⟨t188, A290, H⟩ := H
                            replace H : (some t188) = some r := H
                            have A29 := Aside0.mk A290
                            clear A290
                            obtain rfl := Option.some.inj H
                            go_enter Try.func7, Try.ntmps7
                            go_wp2_with (first | ((with_reducible refine gate_callee (f := 25) rfl ?_); refine goesL_ (some 11) rfl rfl Try.func25 (by kernel_rfl) rfl #[.string a0] rfl (by (try simp only [List.map_toArray, List.map_cons, List.map_nil]); first | done | rfl | (simp only [List.length_drop, List.length_take]; rfl)) ?_; (with_reducible refine (loc_Parse.calls a0 t185 t186 _ A5.out).mono ?_); rintro e w30 ⟨rfl, hb⟩; refine ⟨_, rfl, ?_⟩; have n0_ := Aside0.mk (below_step (by repeat (first | (with_reducible first | exact HB.out | apply below_alloc | apply pw_below_drewN | apply below_drew1) | exact HB.out)) hb); clear HB; have HB := n0_; clear n0_; (try clear hb); (try clear hb2); (try clear hk); (try clear hi); have p16 : 0 ≤ (0 : Int) := (by omega); have q16 : 0 < a0.size := (by have : (0 : Int) < (a0.size : Int) := of_decide_eq_true (by first | (with_reducible assumption) | assumption); omega); have hx16 : ∀ h : 0 < a0.size, ((a0[0]'h).toNat : Int) = bt a0 0 := bt_at a0 0; clear p16; have qi16 : (0 < (a0.size : Int)) = True := eq_true (of_decide_eq_true (by first | (with_reducible assumption) | assumption)); replace q16 := eq_true q16; have p20 : 0 ≤ (1 : Int) := (by omega); have q20 : 1 < a0.size := (by have : (1 : Int) < (a0.size : Int) := of_decide_eq_true (by first | (with_reducible assumption) | assumption); omega); have hx20 : ∀ h : 1 < a0.size, ((a0[1]'h).toNat : Int) = bt a0 1 := bt_at a0 1; clear p20; have qi20 : (1 < (a0.size : Int)) = True := eq_true (of_decide_eq_true (by first | (with_reducible assumption) | assumption)); replace q20 := eq_true q20; have p25 : 0 ≤ (0 : Int) := (by omega); have q25 : 0 < a0.size := (by have : (0 : Int) < (a0.size : Int) := of_decide_eq_true (by first | (with_reducible assumption) | assumption); omega); have hx25 : ∀ h : 0 < a0.size, ((a0[0]'h).toNat : Int) = bt a0 0 := bt_at a0 0; clear p25; have qi25 : (0 < (a0.size : Int)) = True := eq_true (of_decide_eq_true (by first | (with_reducible assumption) | assumption)); replace q25 := eq_true q25; have p27 : 0 ≤ (1 : Int) := (by omega); have q27 : 1 < a0.size := (by have : (1 : Int) < (a0.size : Int) := of_decide_eq_true (by first | (with_reducible assumption) | assumption); omega); have hx27 : ∀ h : 1 < a0.size, ((a0[1]'h).toNat : Int) = bt a0 1 := bt_at a0 1; clear p27; have qi27 : (1 < (a0.size : Int)) = True := eq_true (of_decide_eq_true (by first | (with_reducible assumption) | assumption)); replace q27 := eq_true q27) | (go_at_call 23; (with_reducible refine (joinerylaw02_knows.calls  t188 _ A29.out).mono ?_); rintro e w31 ⟨rfl, hb⟩; have n0_ := Aside0.mk (below_step (by repeat (first | (with_reducible first | exact HB.out | apply below_alloc | apply pw_below_drewN | apply below_drew1) | exact HB.out)) hb); clear HB; have HB := n0_; clear n0_; (try clear hb); (try clear hb2); (try clear hk); (try clear hi)))
                            go_ret
                            exact ⟨by first | rfl | (simp [errW_none, errW_some] <;> rfl) | (simp [*, errW_none, errW_some] <;> rfl), by repeat (first | (with_reducible first | exact HB.out | apply below_alloc | apply pw_below_drewN | apply below_drew1) | exact HB.out)⟩
                          · rw [if_neg c28] at H
                            have c28b0 : (t185 == (wrap64 ((wrap64 (bt a0 1)) - 40))) = false := beq_eq_false_iff_ne.mpr c28
                            have c28b1 : (t185 != (wrap64 ((wrap64 (bt a0 1)) - 40))) = true := bne_iff_ne.mpr c28
                            by_cases c33 : (a0.size : Int) = 3
                            · rw [if_pos c33] at H
                              have c33b0 : ((a0.size : Int) == 3) = true := beq_iff_eq.mpr c33
                              have c33b1 : ((a0.size : Int) != 3) = false := bne_eq_false_iff_eq.mpr c33
                              clear c33
                              by_cases c35 : (bt a0 1) = 49
                              · rw [if_pos c35] at H
                                have c35b0 : ((bt a0 1) == 49) = true := beq_iff_eq.mpr c35
                                have c35b1 : ((bt a0 1) != 49) = false := bne_eq_false_iff_eq.mpr c35
                                clear c35
                                by_cases c36 : 2 < (a0.size : Int)
                                · rw [if_pos c36] at H
                                  have c36b0 : decide (2 < (a0.size : Int)) = true := decide_eq_true c36
                                  have c36b1 : decide (2 < a0.size) = true := decide_eq_true (by omega)
                                  clear c36
                                  by_cases c38 : t185 = (wrap64 ((wrap64 (bt a0 2)) - 30))
                                  · rw [if_pos c38] at H
                                    have c38b0 : (t185 == (wrap64 ((wrap64 (bt a0 2)) - 30))) = true := beq_iff_eq.mpr c38
                                    have c38b1 : (t185 != (wrap64 ((wrap64 (bt a0 2)) - 30))) = false := bne_eq_false_iff_eq.mpr c38
                                    clear c38
                                    replace H := Option.bind_eq_some_iff.mp H
                                    obtain ⟨t189, A390, H⟩ := H
                                    replace H : (some t189) = some r := H
                                    have A39 := Aside0.mk A390
                                    clear A390
                                    obtain rfl := Option.some.inj H
                                    go_enter Try.func7, Try.ntmps7
                                    go_wp2_with (first | ((with_reducible refine gate_callee (f := 25) rfl ?_); refine goesL_ (some 11) rfl rfl Try.func25 (by kernel_rfl) rfl #[.string a0] rfl (by (try simp only [List.map_toArray, List.map_cons, List.map_nil]); first | done | rfl | (simp only [List.length_drop, List.length_take]; rfl)) ?_; (with_reducible refine (loc_Parse.calls a0 t185 t186 _ A5.out).mono ?_); rintro e w40 ⟨rfl, hb⟩; refine ⟨_, rfl, ?_⟩; have n0_ := Aside0.mk (below_step (by repeat (first | (with_reducible first | exact HB.out | apply below_alloc | apply pw_below_drewN | apply below_drew1) | exact HB.out)) hb); clear HB; have HB := n0_; clear n0_; (try clear hb); (try clear hb2); (try clear hk); (try clear hi); have p16 : 0 ≤ (0 : Int) := (by omega); have q16 : 0 < a0.size := (by have : (0 : Int) < (a0.size : Int) := of_decide_eq_true (by first | (with_reducible assumption) | assumption); omega); have hx16 : ∀ h : 0 < a0.size, ((a0[0]'h).toNat : Int) = bt a0 0 := bt_at a0 0; clear p16; have qi16 : (0 < (a0.size : Int)) = True := eq_true (of_decide_eq_true (by first | (with_reducible assumption) | assumption)); replace q16 := eq_true q16; have p20 : 0 ≤ (1 : Int) := (by omega); have q20 : 1 < a0.size := (by have : (1 : Int) < (a0.size : Int) := of_decide_eq_true (by first | (with_reducible assumption) | assumption); omega); have hx20 : ∀ h : 1 < a0.size, ((a0[1]'h).toNat : Int) = bt a0 1 := bt_at a0 1; clear p20; have qi20 : (1 < (a0.size : Int)) = True := eq_true (of_decide_eq_true (by first | (with_reducible assumption) | assumption)); replace q20 := eq_true q20; have p25 : 0 ≤ (0 : Int) := (by omega); have q25 : 0 < a0.size := (by have : (0 : Int) < (a0.size : Int) := of_decide_eq_true (by first | (with_reducible assumption) | assumption); omega); have hx25 : ∀ h : 0 < a0.size, ((a0[0]'h).toNat : Int) = bt a0 0 := bt_at a0 0; clear p25; have qi25 : (0 < (a0.size : Int)) = True := eq_true (of_decide_eq_true (by first | (with_reducible assumption) | assumption)); replace q25 := eq_true q25; have p27 : 0 ≤ (1 : Int) := (by omega); have q27 : 1 < a0.size := (by have : (1 : Int) < (a0.size : Int) := of_decide_eq_true (by first | (with_reducible assumption) | assumption); omega); have hx27 : ∀ h : 1 < a0.size, ((a0[1]'h).toNat : Int) = bt a0 1 := bt_at a0 1; clear p27; have qi27 : (1 < (a0.size : Int)) = True := eq_true (of_decide_eq_true (by first | (with_reducible assumption) | assumption)); replace q27 := eq_true q27; have p32 : 0 ≤ (0 : Int) := (by omega); have q32 : 0 < a0.size := (by have : (0 : Int) < (a0.size : Int) := of_decide_eq_true (by first | (with_reducible assumption) | assumption); omega); have hx32 : ∀ h : 0 < a0.size, ((a0[0]'h).toNat : Int) = bt a0 0 := bt_at a0 0; clear p32; have qi32 : (0 < (a0.size : Int)) = True := eq_true (of_decide_eq_true (by first | (with_reducible assumption) | assumption)); replace q32 := eq_true q32; have p34 : 0 ≤ (1 : Int) := (by omega); have q34 : 1 < a0.size := (by have : (1 : Int) < (a0.size : Int) := of_decide_eq_true (by first | (with_reducible assumption) | assumption); omega); have hx34 : ∀ h : 1 < a0.size, ((a0[1]'h).toNat : Int) = bt a0 1 := bt_at a0 1; clear p34; have qi34 : (1 < (a0.size : Int)) = True := eq_true (of_decide_eq_true (by first | (with_reducible assumption) | assumption)); replace q34 := eq_true q34; have p37 : 0 ≤ (2 : Int) := (by omega); have q37 : 2 < a0.size := (by have : (2 : Int) < (a0.size : Int) := of_decide_eq_true (by first | (with_reducible assumption) | assumption); omega); have hx37 : ∀ h : 2 < a0.size, ((a0[2]'h).toNat : Int) = bt a0 2 := bt_at a0 2; clear p37; have qi37 : (2 < (a0.size : Int)) = True := eq_true (of_decide_eq_true (by first | (with_reducible assumption) | assumption)); replace q37 := eq_true q37) | (go_at_call 23; (with_reducible refine (joinerylaw02_knows.calls  t189 _ A39.out).mono ?_); rintro e w41 ⟨rfl, hb⟩; have n0_ := Aside0.mk (below_step (by repeat (first | (with_reducible first | exact HB.out | apply below_alloc | apply pw_below_drewN | apply below_drew1) | exact HB.out)) hb); clear HB; have HB := n0_; clear n0_; (try clear hb); (try clear hb2); (try clear hk); (try clear hi)))
                                    go_ret
                                    exact ⟨by first | rfl | (simp [errW_none, errW_some] <;> rfl) | (simp [*, errW_none, errW_some] <;> rfl), by repeat (first | (with_reducible first | exact HB.out | apply below_alloc | apply pw_below_drewN | apply below_drew1) | exact HB.out)⟩
                                  · rw [if_neg c38] at H
                                    have c38b0 : (t185 == (wrap64 ((wrap64 (bt a0 2)) - 30))) = false := beq_eq_false_iff_ne.mpr c38
                                    have c38b1 : (t185 != (wrap64 ((wrap64 (bt a0 2)) - 30))) = true := bne_iff_ne.mpr c38
                                    obtain rfl := Option.some.inj H
                                    go_enter Try.func7, Try.ntmps7
                                    go_wp2_with (first | ((with_reducible refine gate_callee (f := 25) rfl ?_); refine goesL_ (some 11) rfl rfl Try.func25 (by kernel_rfl) rfl #[.string a0] rfl (by (try simp only [List.map_toArray, List.map_cons, List.map_nil]); first | done | rfl | (simp only [List.length_drop, List.length_take]; rfl)) ?_; (with_reducible refine (loc_Parse.calls a0 t185 t186 _ A5.out).mono ?_); rintro e w42 ⟨rfl, hb⟩; refine ⟨_, rfl, ?_⟩; have n0_ := Aside0.mk (below_step (by repeat (first | (with_reducible first | exact HB.out | apply below_alloc | apply pw_below_drewN | apply below_drew1) | exact HB.out)) hb); clear HB; have HB := n0_; clear n0_; (try clear hb); (try clear hb2); (try clear hk); (try clear hi); have p16 : 0 ≤ (0 : Int) := (by omega); have q16 : 0 < a0.size := (by have : (0 : Int) < (a0.size : Int) := of_decide_eq_true (by first | (with_reducible assumption) | assumption); omega); have hx16 : ∀ h : 0 < a0.size, ((a0[0]'h).toNat : Int) = bt a0 0 := bt_at a0 0; clear p16; have qi16 : (0 < (a0.size : Int)) = True := eq_true (of_decide_eq_true (by first | (with_reducible assumption) | assumption)); replace q16 := eq_true q16; have p20 : 0 ≤ (1 : Int) := (by omega); have q20 : 1 < a0.size := (by have : (1 : Int) < (a0.size : Int) := of_decide_eq_true (by first | (with_reducible assumption) | assumption); omega); have hx20 : ∀ h : 1 < a0.size, ((a0[1]'h).toNat : Int) = bt a0 1 := bt_at a0 1; clear p20; have qi20 : (1 < (a0.size : Int)) = True := eq_true (of_decide_eq_true (by first | (with_reducible assumption) | assumption)); replace q20 := eq_true q20; have p25 : 0 ≤ (0 : Int) := (by omega); have q25 : 0 < a0.size := (by have : (0 : Int) < (a0.size : Int) := of_decide_eq_true (by first | (with_reducible assumption) | assumption); omega); have hx25 : ∀ h : 0 < a0.size, ((a0[0]'h).toNat : Int) = bt a0 0 := bt_at a0 0; clear p25; have qi25 : (0 < (a0.size : Int)) = True := eq_true (of_decide_eq_true (by first | (with_reducible assumption) | assumption)); replace q25 := eq_true q25; have p27 : 0 ≤ (1 : Int) := (by omega); have q27 : 1 < a0.size := (by have : (1 : Int) < (a0.size : Int) := of_decide_eq_true (by first | (with_reducible assumption) | assumption); omega); have hx27 : ∀ h : 1 < a0.size, ((a0[1]'h).toNat : Int) = bt a0 1 := bt_at a0 1; clear p27; have qi27 : (1 < (a0.size : Int)) = True := eq_true (of_decide_eq_true (by first | (with_reducible assumption) | assumption)); replace q27 := eq_true q27; have p32 : 0 ≤ (0 : Int) := (by omega); have q32 : 0 < a0.size := (by have : (0 : Int) < (a0.size : Int) := of_decide_eq_true (by first | (with_reducible assumption) | assumption); omega); have hx32 : ∀ h : 0 < a0.size, ((a0[0]'h).toNat : Int) = bt a0 0 := bt_at a0 0; clear p32; have qi32 : (0 < (a0.size : Int)) = True := eq_true (of_decide_eq_true (by first | (with_reducible assumption) | assumption)); replace q32 := eq_true q32; have p34 : 0 ≤ (1 : Int) := (by omega); have q34 : 1 < a0.size := (by have : (1 : Int) < (a0.size : Int) := of_decide_eq_true (by first | (with_reducible assumption) | assumption); omega); have hx34 : ∀ h : 1 < a0.size, ((a0[1]'h).toNat : Int) = bt a0 1 := bt_at a0 1; clear p34; have qi34 : (1 < (a0.size : Int)) = True := eq_true (of_decide_eq_true (by first | (with_reducible assumption) | assumption)); replace q34 := eq_true q34; have p37 : 0 ≤ (2 : Int) := (by omega); have q37 : 2 < a0.size := (by have : (2 : Int) < (a0.size : Int) := of_decide_eq_true (by first | (with_reducible assumption) | assumption); omega); have hx37 : ∀ h : 2 < a0.size, ((a0[2]'h).toNat : Int) = bt a0 2 := bt_at a0 2; clear p37; have qi37 : (2 < (a0.size : Int)) = True := eq_true (of_decide_eq_true (by first | (with_reducible assumption) | assumption)); replace q37 := eq_true q37))
                                    go_ret
                                    exact ⟨by first | rfl | (simp [errW_none, errW_some] <;> rfl) | (simp [*, errW_none, errW_some] <;> rfl), by repeat (first | (with_reducible first | exact HB.out | apply below_alloc | apply pw_below_drewN | apply below_drew1) | exact HB.out)⟩
                                · rw [if_neg c36] at H
                                  exact absurd H (by simp)
                              · rw [if_neg c35] at H
                                have c35b0 : ((bt a0 1) == 49) = false := beq_eq_false_iff_ne.mpr c35
                                have c35b1 : ((bt a0 1) != 49) = true := bne_iff_ne.mpr c35
                                obtain rfl := Option.some.inj H
                                go_enter Try.func7, Try.ntmps7
                                go_wp2_with (first | ((with_reducible refine gate_callee (f := 25) rfl ?_); refine goesL_ (some 11) rfl rfl Try.func25 (by kernel_rfl) rfl #[.string a0] rfl (by (try simp only [List.map_toArray, List.map_cons, List.map_nil]); first | done | rfl | (simp only [List.length_drop, List.length_take]; rfl)) ?_; (with_reducible refine (loc_Parse.calls a0 t185 t186 _ A5.out).mono ?_); rintro e w43 ⟨rfl, hb⟩; refine ⟨_, rfl, ?_⟩; have n0_ := Aside0.mk (below_step (by repeat (first | (with_reducible first | exact HB.out | apply below_alloc | apply pw_below_drewN | apply below_drew1) | exact HB.out)) hb); clear HB; have HB := n0_; clear n0_; (try clear hb); (try clear hb2); (try clear hk); (try clear hi); have p16 : 0 ≤ (0 : Int) := (by omega); have q16 : 0 < a0.size := (by have : (0 : Int) < (a0.size : Int) := of_decide_eq_true (by first | (with_reducible assumption) | assumption); omega); have hx16 : ∀ h : 0 < a0.size, ((a0[0]'h).toNat : Int) = bt a0 0 := bt_at a0 0; clear p16; have qi16 : (0 < (a0.size : Int)) = True := eq_true (of_decide_eq_true (by first | (with_reducible assumption) | assumption)); replace q16 := eq_true q16; have p20 : 0 ≤ (1 : Int) := (by omega); have q20 : 1 < a0.size := (by have : (1 : Int) < (a0.size : Int) := of_decide_eq_true (by first | (with_reducible assumption) | assumption); omega); have hx20 : ∀ h : 1 < a0.size, ((a0[1]'h).toNat : Int) = bt a0 1 := bt_at a0 1; clear p20; have qi20 : (1 < (a0.size : Int)) = True := eq_true (of_decide_eq_true (by first | (with_reducible assumption) | assumption)); replace q20 := eq_true q20; have p25 : 0 ≤ (0 : Int) := (by omega); have q25 : 0 < a0.size := (by have : (0 : Int) < (a0.size : Int) := of_decide_eq_true (by first | (with_reducible assumption) | assumption); omega); have hx25 : ∀ h : 0 < a0.size, ((a0[0]'h).toNat : Int) = bt a0 0 := bt_at a0 0; clear p25; have qi25 : (0 < (a0.size : Int)) = True := eq_true (of_decide_eq_true (by first | (with_reducible assumption) | assumption)); replace q25 := eq_true q25; have p27 : 0 ≤ (1 : Int) := (by omega); have q27 : 1 < a0.size := (by have : (1 : Int) < (a0.size : Int) := of_decide_eq_true (by first | (with_reducible assumption) | assumption); omega); have hx27 : ∀ h : 1 < a0.size, ((a0[1]'h).toNat : Int) = bt a0 1 := bt_at a0 1; clear p27; have qi27 : (1 < (a0.size : Int)) = True := eq_true (of_decide_eq_true (by first | (with_reducible assumption) | assumption)); replace q27 := eq_true q27; have p32 : 0 ≤ (0 : Int) := (by omega); have q32 : 0 < a0.size := (by have : (0 : Int) < (a0.size : Int) := of_decide_eq_true (by first | (with_reducible assumption) | assumption); omega); have hx32 : ∀ h : 0 < a0.size, ((a0[0]'h).toNat : Int) = bt a0 0 := bt_at a0 0; clear p32; have qi32 : (0 < (a0.size : Int)) = True := eq_true (of_decide_eq_true (by first | (with_reducible assumption) | assumption)); replace q32 := eq_true q32; have p34 : 0 ≤ (1 : Int) := (by omega); have q34 : 1 < a0.size := (by have : (1 : Int) < (a0.size : Int) := of_decide_eq_true (by first | (with_reducible assumption) | assumption); omega); have hx34 : ∀ h : 1 < a0.size, ((a0[1]'h).toNat : Int) = bt a0 1 := bt_at a0 1; clear p34; have qi34 : (1 < (a0.size : Int)) = True := eq_true (of_decide_eq_true (by first | (with_reducible assumption) | assumption)); replace q34 := eq_true q34))
                                go_ret
                                exact ⟨by first | rfl | (simp [errW_none, errW_some] <;> rfl) | (simp [*, errW_none, errW_some] <;> rfl), by repeat (first | (with_reducible first | exact HB.out | apply below_alloc | apply pw_below_drewN | apply below_drew1) | exact HB.out)⟩
                            · rw [if_neg c33] at H
                              have c33b0 : ((a0.size : Int) == 3) = false := beq_eq_false_iff_ne.mpr c33
                              have c33b1 : ((a0.size : Int) != 3) = true := bne_iff_ne.mpr c33
                              obtain rfl := Option.some.inj H
                              go_enter Try.func7, Try.ntmps7
                              go_wp2_with (first | ((with_reducible refine gate_callee (f := 25) rfl ?_); refine goesL_ (some 11) rfl rfl Try.func25 (by kernel_rfl) rfl #[.string a0] rfl (by (try simp only [List.map_toArray, List.map_cons, List.map_nil]); first | done | rfl | (simp only [List.length_drop, List.length_take]; rfl)) ?_; (with_reducible refine (loc_Parse.calls a0 t185 t186 _ A5.out).mono ?_); rintro e w44 ⟨rfl, hb⟩; refine ⟨_, rfl, ?_⟩; have n0_ := Aside0.mk (below_step (by repeat (first | (with_reducible first | exact HB.out | apply below_alloc | apply pw_below_drewN | apply below_drew1) | exact HB.out)) hb); clear HB; have HB := n0_; clear n0_; (try clear hb); (try clear hb2); (try clear hk); (try clear hi); have p16 : 0 ≤ (0 : Int) := (by omega); have q16 : 0 < a0.size := (by have : (0 : Int) < (a0.size : Int) := of_decide_eq_true (by first | (with_reducible assumption) | assumption); omega); have hx16 : ∀ h : 0 < a0.size, ((a0[0]'h).toNat : Int) = bt a0 0 := bt_at a0 0; clear p16; have qi16 : (0 < (a0.size : Int)) = True := eq_true (of_decide_eq_true (by first | (with_reducible assumption) | assumption)); replace q16 := eq_true q16; have p20 : 0 ≤ (1 : Int) := (by omega); have q20 : 1 < a0.size := (by have : (1 : Int) < (a0.size : Int) := of_decide_eq_true (by first | (with_reducible assumption) | assumption); omega); have hx20 : ∀ h : 1 < a0.size, ((a0[1]'h).toNat : Int) = bt a0 1 := bt_at a0 1; clear p20; have qi20 : (1 < (a0.size : Int)) = True := eq_true (of_decide_eq_true (by first | (with_reducible assumption) | assumption)); replace q20 := eq_true q20; have p25 : 0 ≤ (0 : Int) := (by omega); have q25 : 0 < a0.size := (by have : (0 : Int) < (a0.size : Int) := of_decide_eq_true (by first | (with_reducible assumption) | assumption); omega); have hx25 : ∀ h : 0 < a0.size, ((a0[0]'h).toNat : Int) = bt a0 0 := bt_at a0 0; clear p25; have qi25 : (0 < (a0.size : Int)) = True := eq_true (of_decide_eq_true (by first | (with_reducible assumption) | assumption)); replace q25 := eq_true q25; have p27 : 0 ≤ (1 : Int) := (by omega); have q27 : 1 < a0.size := (by have : (1 : Int) < (a0.size : Int) := of_decide_eq_true (by first | (with_reducible assumption) | assumption); omega); have hx27 : ∀ h : 1 < a0.size, ((a0[1]'h).toNat : Int) = bt a0 1 := bt_at a0 1; clear p27; have qi27 : (1 < (a0.size : Int)) = True := eq_true (of_decide_eq_true (by first | (with_reducible assumption) | assumption)); replace q27 := eq_true q27; have p32 : 0 ≤ (0 : Int) := (by omega); have q32 : 0 < a0.size := (by have : (0 : Int) < (a0.size : Int) := of_decide_eq_true (by first | (with_reducible assumption) | assumption); omega); have hx32 : ∀ h : 0 < a0.size, ((a0[0]'h).toNat : Int) = bt a0 0 := bt_at a0 0; clear p32; have qi32 : (0 < (a0.size : Int)) = True := eq_true (of_decide_eq_true (by first | (with_reducible assumption) | assumption)); replace q32 := eq_true q32))
                              go_ret
                              exact ⟨by first | rfl | (simp [errW_none, errW_some] <;> rfl) | (simp [*, errW_none, errW_some] <;> rfl), by repeat (first | (with_reducible first | exact HB.out | apply below_alloc | apply pw_below_drewN | apply below_drew1) | exact HB.out)⟩
                        · rw [if_neg c26] at H
                          have c26b0 : ((bt a0 0) == 115) = false := beq_eq_false_iff_ne.mpr c26
                          have c26b1 : ((bt a0 0) != 115) = true := bne_iff_ne.mpr c26
                          obtain rfl := Option.some.inj H
                          go_enter Try.func7, Try.ntmps7
                          go_wp2_with (first | ((with_reducible refine gate_callee (f := 25) rfl ?_); refine goesL_ (some 11) rfl rfl Try.func25 (by kernel_rfl) rfl #[.string a0] rfl (by (try simp only [List.map_toArray, List.map_cons, List.map_nil]); first | done | rfl | (simp only [List.length_drop, List.length_take]; rfl)) ?_; (with_reducible refine (loc_Parse.calls a0 t185 t186 _ A5.out).mono ?_); rintro e w46 ⟨rfl, hb⟩; refine ⟨_, rfl, ?_⟩; have n0_ := Aside0.mk (below_step (by repeat (first | (with_reducible first | exact HB.out | apply below_alloc | apply pw_below_drewN | apply below_drew1) | exact HB.out)) hb); clear HB; have HB := n0_; clear n0_; (try clear hb); (try clear hb2); (try clear hk); (try clear hi); have p16 : 0 ≤ (0 : Int) := (by omega); have q16 : 0 < a0.size := (by have : (0 : Int) < (a0.size : Int) := of_decide_eq_true (by first | (with_reducible assumption) | assumption); omega); have hx16 : ∀ h : 0 < a0.size, ((a0[0]'h).toNat : Int) = bt a0 0 := bt_at a0 0; clear p16; have qi16 : (0 < (a0.size : Int)) = True := eq_true (of_decide_eq_true (by first | (with_reducible assumption) | assumption)); replace q16 := eq_true q16; have p20 : 0 ≤ (1 : Int) := (by omega); have q20 : 1 < a0.size := (by have : (1 : Int) < (a0.size : Int) := of_decide_eq_true (by first | (with_reducible assumption) | assumption); omega); have hx20 : ∀ h : 1 < a0.size, ((a0[1]'h).toNat : Int) = bt a0 1 := bt_at a0 1; clear p20; have qi20 : (1 < (a0.size : Int)) = True := eq_true (of_decide_eq_true (by first | (with_reducible assumption) | assumption)); replace q20 := eq_true q20; have p25 : 0 ≤ (0 : Int) := (by omega); have q25 : 0 < a0.size := (by have : (0 : Int) < (a0.size : Int) := of_decide_eq_true (by first | (with_reducible assumption) | assumption); omega); have hx25 : ∀ h : 0 < a0.size, ((a0[0]'h).toNat : Int) = bt a0 0 := bt_at a0 0; clear p25; have qi25 : (0 < (a0.size : Int)) = True := eq_true (of_decide_eq_true (by first | (with_reducible assumption) | assumption)); replace q25 := eq_true q25; have p45 : 0 ≤ (0 : Int) := (by omega); have q45 : 0 < a0.size := (by have : (0 : Int) < (a0.size : Int) := of_decide_eq_true (by first | (with_reducible assumption) | assumption); omega); have hx45 : ∀ h : 0 < a0.size, ((a0[0]'h).toNat : Int) = bt a0 0 := bt_at a0 0; clear p45; have qi45 : (0 < (a0.size : Int)) = True := eq_true (of_decide_eq_true (by first | (with_reducible assumption) | assumption)); replace q45 := eq_true q45))
                          go_ret
                          exact ⟨by first | rfl | (simp [errW_none, errW_some] <;> rfl) | (simp [*, errW_none, errW_some] <;> rfl), by repeat (first | (with_reducible first | exact HB.out | apply below_alloc | apply pw_below_drewN | apply below_drew1) | exact HB.out)⟩
                    · rw [if_neg c19] at H
                      exact absurd H (by simp)
                  · rw [if_neg c18] at H
                    have c18b0 : ((a0.size : Int) == 2) = false := beq_eq_false_iff_ne.mpr c18
                    have c18b1 : ((a0.size : Int) != 2) = true := bne_iff_ne.mpr c18
                    by_cases c48 : (bt a0 0) = 115
                    · rw [if_pos c48] at H
                      have c48b0 : ((bt a0 0) == 115) = true := beq_iff_eq.mpr c48
                      have c48b1 : ((bt a0 0) != 115) = false := bne_eq_false_iff_eq.mpr c48
                      clear c48
                      by_cases c50 : (a0.size : Int) = 3
                      · rw [if_pos c50] at H
                        have c50b0 : ((a0.size : Int) == 3) = true := beq_iff_eq.mpr c50
                        have c50b1 : ((a0.size : Int) != 3) = false := bne_eq_false_iff_eq.mpr c50
                        clear c50
                        by_cases c51 : 1 < (a0.size : Int)
                        · rw [if_pos c51] at H
                          have c51b0 : decide (1 < (a0.size : Int)) = true := decide_eq_true c51
                          have c51b1 : decide (1 < a0.size) = true := decide_eq_true (by omega)
                          clear c51
                          by_cases c53 : (bt a0 1) = 49
                          · rw [if_pos c53] at H
                            have c53b0 : ((bt a0 1) == 49) = true := beq_iff_eq.mpr c53
                            have c53b1 : ((bt a0 1) != 49) = false := bne_eq_false_iff_eq.mpr c53
                            clear c53
                            by_cases c54 : 2 < (a0.size : Int)
                            · rw [if_pos c54] at H
                              have c54b0 : decide (2 < (a0.size : Int)) = true := decide_eq_true c54
                              have c54b1 : decide (2 < a0.size) = true := decide_eq_true (by omega)
                              clear c54
                              by_cases c56 : t185 = (wrap64 ((wrap64 (bt a0 2)) - 30))
                              · rw [if_pos c56] at H
                                have c56b0 : (t185 == (wrap64 ((wrap64 (bt a0 2)) - 30))) = true := beq_iff_eq.mpr c56
                                have c56b1 : (t185 != (wrap64 ((wrap64 (bt a0 2)) - 30))) = false := bne_eq_false_iff_eq.mpr c56
                                clear c56
                                replace H := Option.bind_eq_some_iff.mp H
                                obtain ⟨t190, A570, H⟩ := H
                                replace H : (some t190) = some r := H
                                have A57 := Aside0.mk A570
                                clear A570
                                obtain rfl := Option.some.inj H
                                go_enter Try.func7, Try.ntmps7
                                go_wp2_with (first | ((with_reducible refine gate_callee (f := 25) rfl ?_); refine goesL_ (some 11) rfl rfl Try.func25 (by kernel_rfl) rfl #[.string a0] rfl (by (try simp only [List.map_toArray, List.map_cons, List.map_nil]); first | done | rfl | (simp only [List.length_drop, List.length_take]; rfl)) ?_; (with_reducible refine (loc_Parse.calls a0 t185 t186 _ A5.out).mono ?_); rintro e w58 ⟨rfl, hb⟩; refine ⟨_, rfl, ?_⟩; have n0_ := Aside0.mk (below_step (by repeat (first | (with_reducible first | exact HB.out | apply below_alloc | apply pw_below_drewN | apply below_drew1) | exact HB.out)) hb); clear HB; have HB := n0_; clear n0_; (try clear hb); (try clear hb2); (try clear hk); (try clear hi); have p16 : 0 ≤ (0 : Int) := (by omega); have q16 : 0 < a0.size := (by have : (0 : Int) < (a0.size : Int) := of_decide_eq_true (by first | (with_reducible assumption) | assumption); omega); have hx16 : ∀ h : 0 < a0.size, ((a0[0]'h).toNat : Int) = bt a0 0 := bt_at a0 0; clear p16; have qi16 : (0 < (a0.size : Int)) = True := eq_true (of_decide_eq_true (by first | (with_reducible assumption) | assumption)); replace q16 := eq_true q16; have p47 : 0 ≤ (0 : Int) := (by omega); have q47 : 0 < a0.size := (by have : (0 : Int) < (a0.size : Int) := of_decide_eq_true (by first | (with_reducible assumption) | assumption); omega); have hx47 : ∀ h : 0 < a0.size, ((a0[0]'h).toNat : Int) = bt a0 0 := bt_at a0 0; clear p47; have qi47 : (0 < (a0.size : Int)) = True := eq_true (of_decide_eq_true (by first | (with_reducible assumption) | assumption)); replace q47 := eq_true q47; have p49 : 0 ≤ (0 : Int) := (by omega); have q49 : 0 < a0.size := (by have : (0 : Int) < (a0.size : Int) := of_decide_eq_true (by first | (with_reducible assumption) | assumption); omega); have hx49 : ∀ h : 0 < a0.size, ((a0[0]'h).toNat : Int) = bt a0 0 := bt_at a0 0; clear p49; have qi49 : (0 < (a0.size : Int)) = True := eq_true (of_decide_eq_true (by first | (with_reducible assumption) | assumption)); replace q49 := eq_true q49; have p52 : 0 ≤ (1 : Int) := (by omega); have q52 : 1 < a0.size := (by have : (1 : Int) < (a0.size : Int) := of_decide_eq_true (by first | (with_reducible assumption) | assumption); omega); have hx52 : ∀ h : 1 < a0.size, ((a0[1]'h).toNat : Int) = bt a0 1 := bt_at a0 1; clear p52; have qi52 : (1 < (a0.size : Int)) = True := eq_true (of_decide_eq_true (by first | (with_reducible assumption) | assumption)); replace q52 := eq_true q52; have p55 : 0 ≤ (2 : Int) := (by omega); have q55 : 2 < a0.size := (by have : (2 : Int) < (a0.size : Int) := of_decide_eq_true (by first | (with_reducible assumption) | assumption); omega); have hx55 : ∀ h : 2 < a0.size, ((a0[2]'h).toNat : Int) = bt a0 2 := bt_at a0 2; clear p55; have qi55 : (2 < (a0.size : Int)) = True := eq_true (of_decide_eq_true (by first | (with_reducible assumption) | assumption)); replace q55 := eq_true q55) | (go_at_call 23; (with_reducible refine (joinerylaw02_knows.calls  t190 _ A57.out).mono ?_); rintro e w59 ⟨rfl, hb⟩; have n0_ := Aside0.mk (below_step (by repeat (first | (with_reducible first | exact HB.out | apply below_alloc | apply pw_below_drewN | apply below_drew1) | exact HB.out)) hb); clear HB; have HB := n0_; clear n0_; (try clear hb); (try clear hb2); (try clear hk); (try clear hi)))
                                go_ret
                                exact ⟨by first | rfl | (simp [errW_none, errW_some] <;> rfl) | (simp [*, errW_none, errW_some] <;> rfl), by repeat (first | (with_reducible first | exact HB.out | apply below_alloc | apply pw_below_drewN | apply below_drew1) | exact HB.out)⟩
                              · rw [if_neg c56] at H
                                have c56b0 : (t185 == (wrap64 ((wrap64 (bt a0 2)) - 30))) = false := beq_eq_false_iff_ne.mpr c56
                                have c56b1 : (t185 != (wrap64 ((wrap64 (bt a0 2)) - 30))) = true := bne_iff_ne.mpr c56
                                obtain rfl := Option.some.inj H
                                go_enter Try.func7, Try.ntmps7
                                go_wp2_with (first | ((with_reducible refine gate_callee (f := 25) rfl ?_); refine goesL_ (some 11) rfl rfl Try.func25 (by kernel_rfl) rfl #[.string a0] rfl (by (try simp only [List.map_toArray, List.map_cons, List.map_nil]); first | done | rfl | (simp only [List.length_drop, List.length_take]; rfl)) ?_; (with_reducible refine (loc_Parse.calls a0 t185 t186 _ A5.out).mono ?_); rintro e w60 ⟨rfl, hb⟩; refine ⟨_, rfl, ?_⟩; have n0_ := Aside0.mk (below_step (by repeat (first | (with_reducible first | exact HB.out | apply below_alloc | apply pw_below_drewN | apply below_drew1) | exact HB.out)) hb); clear HB; have HB := n0_; clear n0_; (try clear hb); (try clear hb2); (try clear hk); (try clear hi); have p16 : 0 ≤ (0 : Int) := (by omega); have q16 : 0 < a0.size := (by have : (0 : Int) < (a0.size : Int) := of_decide_eq_true (by first | (with_reducible assumption) | assumption); omega); have hx16 : ∀ h : 0 < a0.size, ((a0[0]'h).toNat : Int) = bt a0 0 := bt_at a0 0; clear p16; have qi16 : (0 < (a0.size : Int)) = True := eq_true (of_decide_eq_true (by first | (with_reducible assumption) | assumption)); replace q16 := eq_true q16; have p47 : 0 ≤ (0 : Int) := (by omega); have q47 : 0 < a0.size := (by have : (0 : Int) < (a0.size : Int) := of_decide_eq_true (by first | (with_reducible assumption) | assumption); omega); have hx47 : ∀ h : 0 < a0.size, ((a0[0]'h).toNat : Int) = bt a0 0 := bt_at a0 0; clear p47; have qi47 : (0 < (a0.size : Int)) = True := eq_true (of_decide_eq_true (by first | (with_reducible assumption) | assumption)); replace q47 := eq_true q47; have p49 : 0 ≤ (0 : Int) := (by omega); have q49 : 0 < a0.size := (by have : (0 : Int) < (a0.size : Int) := of_decide_eq_true (by first | (with_reducible assumption) | assumption); omega); have hx49 : ∀ h : 0 < a0.size, ((a0[0]'h).toNat : Int) = bt a0 0 := bt_at a0 0; clear p49; have qi49 : (0 < (a0.size : Int)) = True := eq_true (of_decide_eq_true (by first | (with_reducible assumption) | assumption)); replace q49 := eq_true q49; have p52 : 0 ≤ (1 : Int) := (by omega); have q52 : 1 < a0.size := (by have : (1 : Int) < (a0.size : Int) := of_decide_eq_true (by first | (with_reducible assumption) | assumption); omega); have hx52 : ∀ h : 1 < a0.size, ((a0[1]'h).toNat : Int) = bt a0 1 := bt_at a0 1; clear p52; have qi52 : (1 < (a0.size : Int)) = True := eq_true (of_decide_eq_true (by first | (with_reducible assumption) | assumption)); replace q52 := eq_true q52; have p55 : 0 ≤ (2 : Int) := (by omega); have q55 : 2 < a0.size := (by have : (2 : Int) < (a0.size : Int) := of_decide_eq_true (by first | (with_reducible assumption) | assumption); omega); have hx55 : ∀ h : 2 < a0.size, ((a0[2]'h).toNat : Int) = bt a0 2 := bt_at a0 2; clear p55; have qi55 : (2 < (a0.size : Int)) = True := eq_true (of_decide_eq_true (by first | (with_reducible assumption) | assumption)); replace q55 := eq_true q55))
                                go_ret
                                exact ⟨by first | rfl | (simp [errW_none, errW_some] <;> rfl) | (simp [*, errW_none, errW_some] <;> rfl), by repeat (first | (with_reducible first | exact HB.out | apply below_alloc | apply pw_below_drewN | apply below_drew1) | exact HB.out)⟩
                            · rw [if_neg c54] at H
                              exact absurd H (by simp)
                          · rw [if_neg c53] at H
                            have c53b0 : ((bt a0 1) == 49) = false := beq_eq_false_iff_ne.mpr c53
                            have c53b1 : ((bt a0 1) != 49) = true := bne_iff_ne.mpr c53
                            obtain rfl := Option.some.inj H
                            go_enter Try.func7, Try.ntmps7
                            go_wp2_with (first | ((with_reducible refine gate_callee (f := 25) rfl ?_); refine goesL_ (some 11) rfl rfl Try.func25 (by kernel_rfl) rfl #[.string a0] rfl (by (try simp only [List.map_toArray, List.map_cons, List.map_nil]); first | done | rfl | (simp only [List.length_drop, List.length_take]; rfl)) ?_; (with_reducible refine (loc_Parse.calls a0 t185 t186 _ A5.out).mono ?_); rintro e w61 ⟨rfl, hb⟩; refine ⟨_, rfl, ?_⟩; have n0_ := Aside0.mk (below_step (by repeat (first | (with_reducible first | exact HB.out | apply below_alloc | apply pw_below_drewN | apply below_drew1) | exact HB.out)) hb); clear HB; have HB := n0_; clear n0_; (try clear hb); (try clear hb2); (try clear hk); (try clear hi); have p16 : 0 ≤ (0 : Int) := (by omega); have q16 : 0 < a0.size := (by have : (0 : Int) < (a0.size : Int) := of_decide_eq_true (by first | (with_reducible assumption) | assumption); omega); have hx16 : ∀ h : 0 < a0.size, ((a0[0]'h).toNat : Int) = bt a0 0 := bt_at a0 0; clear p16; have qi16 : (0 < (a0.size : Int)) = True := eq_true (of_decide_eq_true (by first | (with_reducible assumption) | assumption)); replace q16 := eq_true q16; have p47 : 0 ≤ (0 : Int) := (by omega); have q47 : 0 < a0.size := (by have : (0 : Int) < (a0.size : Int) := of_decide_eq_true (by first | (with_reducible assumption) | assumption); omega); have hx47 : ∀ h : 0 < a0.size, ((a0[0]'h).toNat : Int) = bt a0 0 := bt_at a0 0; clear p47; have qi47 : (0 < (a0.size : Int)) = True := eq_true (of_decide_eq_true (by first | (with_reducible assumption) | assumption)); replace q47 := eq_true q47; have p49 : 0 ≤ (0 : Int) := (by omega); have q49 : 0 < a0.size := (by have : (0 : Int) < (a0.size : Int) := of_decide_eq_true (by first | (with_reducible assumption) | assumption); omega); have hx49 : ∀ h : 0 < a0.size, ((a0[0]'h).toNat : Int) = bt a0 0 := bt_at a0 0; clear p49; have qi49 : (0 < (a0.size : Int)) = True := eq_true (of_decide_eq_true (by first | (with_reducible assumption) | assumption)); replace q49 := eq_true q49; have p52 : 0 ≤ (1 : Int) := (by omega); have q52 : 1 < a0.size := (by have : (1 : Int) < (a0.size : Int) := of_decide_eq_true (by first | (with_reducible assumption) | assumption); omega); have hx52 : ∀ h : 1 < a0.size, ((a0[1]'h).toNat : Int) = bt a0 1 := bt_at a0 1; clear p52; have qi52 : (1 < (a0.size : Int)) = True := eq_true (of_decide_eq_true (by first | (with_reducible assumption) | assumption)); replace q52 := eq_true q52))
                            go_ret
                            exact ⟨by first | rfl | (simp [errW_none, errW_some] <;> rfl) | (simp [*, errW_none, errW_some] <;> rfl), by repeat (first | (with_reducible first | exact HB.out | apply below_alloc | apply pw_below_drewN | apply below_drew1) | exact HB.out)⟩
                        · rw [if_neg c51] at H
                          exact absurd H (by simp)
                      · rw [if_neg c50] at H
                        have c50b0 : ((a0.size : Int) == 3) = false := beq_eq_false_iff_ne.mpr c50
                        have c50b1 : ((a0.size : Int) != 3) = true := bne_iff_ne.mpr c50
                        obtain rfl := Option.some.inj H
                        go_enter Try.func7, Try.ntmps7
                        go_wp2_with (first | ((with_reducible refine gate_callee (f := 25) rfl ?_); refine goesL_ (some 11) rfl rfl Try.func25 (by kernel_rfl) rfl #[.string a0] rfl (by (try simp only [List.map_toArray, List.map_cons, List.map_nil]); first | done | rfl | (simp only [List.length_drop, List.length_take]; rfl)) ?_; (with_reducible refine (loc_Parse.calls a0 t185 t186 _ A5.out).mono ?_); rintro e w62 ⟨rfl, hb⟩; refine ⟨_, rfl, ?_⟩; have n0_ := Aside0.mk (below_step (by repeat (first | (with_reducible first | exact HB.out | apply below_alloc | apply pw_below_drewN | apply below_drew1) | exact HB.out)) hb); clear HB; have HB := n0_; clear n0_; (try clear hb); (try clear hb2); (try clear hk); (try clear hi); have p16 : 0 ≤ (0 : Int) := (by omega); have q16 : 0 < a0.size := (by have : (0 : Int) < (a0.size : Int) := of_decide_eq_true (by first | (with_reducible assumption) | assumption); omega); have hx16 : ∀ h : 0 < a0.size, ((a0[0]'h).toNat : Int) = bt a0 0 := bt_at a0 0; clear p16; have qi16 : (0 < (a0.size : Int)) = True := eq_true (of_decide_eq_true (by first | (with_reducible assumption) | assumption)); replace q16 := eq_true q16; have p47 : 0 ≤ (0 : Int) := (by omega); have q47 : 0 < a0.size := (by have : (0 : Int) < (a0.size : Int) := of_decide_eq_true (by first | (with_reducible assumption) | assumption); omega); have hx47 : ∀ h : 0 < a0.size, ((a0[0]'h).toNat : Int) = bt a0 0 := bt_at a0 0; clear p47; have qi47 : (0 < (a0.size : Int)) = True := eq_true (of_decide_eq_true (by first | (with_reducible assumption) | assumption)); replace q47 := eq_true q47; have p49 : 0 ≤ (0 : Int) := (by omega); have q49 : 0 < a0.size := (by have : (0 : Int) < (a0.size : Int) := of_decide_eq_true (by first | (with_reducible assumption) | assumption); omega); have hx49 : ∀ h : 0 < a0.size, ((a0[0]'h).toNat : Int) = bt a0 0 := bt_at a0 0; clear p49; have qi49 : (0 < (a0.size : Int)) = True := eq_true (of_decide_eq_true (by first | (with_reducible assumption) | assumption)); replace q49 := eq_true q49))
                        go_ret
                        exact ⟨by first | rfl | (simp [errW_none, errW_some] <;> rfl) | (simp [*, errW_none, errW_some] <;> rfl), by repeat (first | (with_reducible first | exact HB.out | apply below_alloc | apply pw_below_drewN | apply below_drew1) | exact HB.out)⟩
                    · rw [if_neg c48] at H
                      have c48b0 : ((bt a0 0) == 115) = false := beq_eq_false_iff_ne.mpr c48
                      have c48b1 : ((bt a0 0) != 115) = true := bne_iff_ne.mpr c48
                      obtain rfl := Option.some.inj H
                      go_enter Try.func7, Try.ntmps7
                      go_wp2_with (first | ((with_reducible refine gate_callee (f := 25) rfl ?_); refine goesL_ (some 11) rfl rfl Try.func25 (by kernel_rfl) rfl #[.string a0] rfl (by (try simp only [List.map_toArray, List.map_cons, List.map_nil]); first | done | rfl | (simp only [List.length_drop, List.length_take]; rfl)) ?_; (with_reducible refine (loc_Parse.calls a0 t185 t186 _ A5.out).mono ?_); rintro e w64 ⟨rfl, hb⟩; refine ⟨_, rfl, ?_⟩; have n0_ := Aside0.mk (below_step (by repeat (first | (with_reducible first | exact HB.out | apply below_alloc | apply pw_below_drewN | apply below_drew1) | exact HB.out)) hb); clear HB; have HB := n0_; clear n0_; (try clear hb); (try clear hb2); (try clear hk); (try clear hi); have p16 : 0 ≤ (0 : Int) := (by omega); have q16 : 0 < a0.size := (by have : (0 : Int) < (a0.size : Int) := of_decide_eq_true (by first | (with_reducible assumption) | assumption); omega); have hx16 : ∀ h : 0 < a0.size, ((a0[0]'h).toNat : Int) = bt a0 0 := bt_at a0 0; clear p16; have qi16 : (0 < (a0.size : Int)) = True := eq_true (of_decide_eq_true (by first | (with_reducible assumption) | assumption)); replace q16 := eq_true q16; have p47 : 0 ≤ (0 : Int) := (by omega); have q47 : 0 < a0.size := (by have : (0 : Int) < (a0.size : Int) := of_decide_eq_true (by first | (with_reducible assumption) | assumption); omega); have hx47 : ∀ h : 0 < a0.size, ((a0[0]'h).toNat : Int) = bt a0 0 := bt_at a0 0; clear p47; have qi47 : (0 < (a0.size : Int)) = True := eq_true (of_decide_eq_true (by first | (with_reducible assumption) | assumption)); replace q47 := eq_true q47; have p63 : 0 ≤ (0 : Int) := (by omega); have q63 : 0 < a0.size := (by have : (0 : Int) < (a0.size : Int) := of_decide_eq_true (by first | (with_reducible assumption) | assumption); omega); have hx63 : ∀ h : 0 < a0.size, ((a0[0]'h).toNat : Int) = bt a0 0 := bt_at a0 0; clear p63; have qi63 : (0 < (a0.size : Int)) = True := eq_true (of_decide_eq_true (by first | (with_reducible assumption) | assumption)); replace q63 := eq_true q63))
                      go_ret
                      exact ⟨by first | rfl | (simp [errW_none, errW_some] <;> rfl) | (simp [*, errW_none, errW_some] <;> rfl), by repeat (first | (with_reducible first | exact HB.out | apply below_alloc | apply pw_below_drewN | apply below_drew1) | exact HB.out)⟩
                · rw [if_neg c17] at H
                  have c17b0 : ((bt a0 0) == 114) = false := beq_eq_false_iff_ne.mpr c17
                  have c17b1 : ((bt a0 0) != 114) = true := bne_iff_ne.mpr c17
                  by_cases c66 : (bt a0 0) = 115
                  · rw [if_pos c66] at H
                    have c66b0 : ((bt a0 0) == 115) = true := beq_iff_eq.mpr c66
                    have c66b1 : ((bt a0 0) != 115) = false := bne_eq_false_iff_eq.mpr c66
                    clear c66
                    by_cases c67 : (a0.size : Int) = 2
                    · rw [if_pos c67] at H
                      have c67b0 : ((a0.size : Int) == 2) = true := beq_iff_eq.mpr c67
                      have c67b1 : ((a0.size : Int) != 2) = false := bne_eq_false_iff_eq.mpr c67
                      clear c67
                      by_cases c68 : 1 < (a0.size : Int)
                      · rw [if_pos c68] at H
                        have c68b0 : decide (1 < (a0.size : Int)) = true := decide_eq_true c68
                        have c68b1 : decide (1 < a0.size) = true := decide_eq_true (by omega)
                        clear c68
                        by_cases c70 : t185 = (wrap64 ((wrap64 (bt a0 1)) - 40))
                        · rw [if_pos c70] at H
                          have c70b0 : (t185 == (wrap64 ((wrap64 (bt a0 1)) - 40))) = true := beq_iff_eq.mpr c70
                          have c70b1 : (t185 != (wrap64 ((wrap64 (bt a0 1)) - 40))) = false := bne_eq_false_iff_eq.mpr c70
                          clear c70
                          replace H := Option.bind_eq_some_iff.mp H
                          obtain ⟨t191, A710, H⟩ := H
                          replace H : (some t191) = some r := H
                          have A71 := Aside0.mk A710
                          clear A710
                          obtain rfl := Option.some.inj H
                          go_enter Try.func7, Try.ntmps7
                          go_wp2_with (first | ((with_reducible refine gate_callee (f := 25) rfl ?_); refine goesL_ (some 11) rfl rfl Try.func25 (by kernel_rfl) rfl #[.string a0] rfl (by (try simp only [List.map_toArray, List.map_cons, List.map_nil]); first | done | rfl | (simp only [List.length_drop, List.length_take]; rfl)) ?_; (with_reducible refine (loc_Parse.calls a0 t185 t186 _ A5.out).mono ?_); rintro e w72 ⟨rfl, hb⟩; refine ⟨_, rfl, ?_⟩; have n0_ := Aside0.mk (below_step (by repeat (first | (with_reducible first | exact HB.out | apply below_alloc | apply pw_below_drewN | apply below_drew1) | exact HB.out)) hb); clear HB; have HB := n0_; clear n0_; (try clear hb); (try clear hb2); (try clear hk); (try clear hi); have p16 : 0 ≤ (0 : Int) := (by omega); have q16 : 0 < a0.size := (by have : (0 : Int) < (a0.size : Int) := of_decide_eq_true (by first | (with_reducible assumption) | assumption); omega); have hx16 : ∀ h : 0 < a0.size, ((a0[0]'h).toNat : Int) = bt a0 0 := bt_at a0 0; clear p16; have qi16 : (0 < (a0.size : Int)) = True := eq_true (of_decide_eq_true (by first | (with_reducible assumption) | assumption)); replace q16 := eq_true q16; have p65 : 0 ≤ (0 : Int) := (by omega); have q65 : 0 < a0.size := (by have : (0 : Int) < (a0.size : Int) := of_decide_eq_true (by first | (with_reducible assumption) | assumption); omega); have hx65 : ∀ h : 0 < a0.size, ((a0[0]'h).toNat : Int) = bt a0 0 := bt_at a0 0; clear p65; have qi65 : (0 < (a0.size : Int)) = True := eq_true (of_decide_eq_true (by first | (with_reducible assumption) | assumption)); replace q65 := eq_true q65; have p69 : 0 ≤ (1 : Int) := (by omega); have q69 : 1 < a0.size := (by have : (1 : Int) < (a0.size : Int) := of_decide_eq_true (by first | (with_reducible assumption) | assumption); omega); have hx69 : ∀ h : 1 < a0.size, ((a0[1]'h).toNat : Int) = bt a0 1 := bt_at a0 1; clear p69; have qi69 : (1 < (a0.size : Int)) = True := eq_true (of_decide_eq_true (by first | (with_reducible assumption) | assumption)); replace q69 := eq_true q69) | (go_at_call 23; (with_reducible refine (joinerylaw02_knows.calls  t191 _ A71.out).mono ?_); rintro e w73 ⟨rfl, hb⟩; have n0_ := Aside0.mk (below_step (by repeat (first | (with_reducible first | exact HB.out | apply below_alloc | apply pw_below_drewN | apply below_drew1) | exact HB.out)) hb); clear HB; have HB := n0_; clear n0_; (try clear hb); (try clear hb2); (try clear hk); (try clear hi)))
                          go_ret
                          exact ⟨by first | rfl | (simp [errW_none, errW_some] <;> rfl) | (simp [*, errW_none, errW_some] <;> rfl), by repeat (first | (with_reducible first | exact HB.out | apply below_alloc | apply pw_below_drewN | apply below_drew1) | exact HB.out)⟩
                        · rw [if_neg c70] at H
                          have c70b0 : (t185 == (wrap64 ((wrap64 (bt a0 1)) - 40))) = false := beq_eq_false_iff_ne.mpr c70
                          have c70b1 : (t185 != (wrap64 ((wrap64 (bt a0 1)) - 40))) = true := bne_iff_ne.mpr c70
                          by_cases c75 : (a0.size : Int) = 3
                          · rw [if_pos c75] at H
                            have c75b0 : ((a0.size : Int) == 3) = true := beq_iff_eq.mpr c75
                            have c75b1 : ((a0.size : Int) != 3) = false := bne_eq_false_iff_eq.mpr c75
                            clear c75
                            by_cases c77 : (bt a0 1) = 49
                            · rw [if_pos c77] at H
                              have c77b0 : ((bt a0 1) == 49) = true := beq_iff_eq.mpr c77
                              have c77b1 : ((bt a0 1) != 49) = false := bne_eq_false_iff_eq.mpr c77
                              clear c77
                              by_cases c78 : 2 < (a0.size : Int)
                              · rw [if_pos c78] at H
                                have c78b0 : decide (2 < (a0.size : Int)) = true := decide_eq_true c78
                                have c78b1 : decide (2 < a0.size) = true := decide_eq_true (by omega)
                                clear c78
                                by_cases c80 : t185 = (wrap64 ((wrap64 (bt a0 2)) - 30))
                                · rw [if_pos c80] at H
                                  have c80b0 : (t185 == (wrap64 ((wrap64 (bt a0 2)) - 30))) = true := beq_iff_eq.mpr c80
                                  have c80b1 : (t185 != (wrap64 ((wrap64 (bt a0 2)) - 30))) = false := bne_eq_false_iff_eq.mpr c80
                                  clear c80
                                  replace H := Option.bind_eq_some_iff.mp H
                                  obtain ⟨t192, A810, H⟩ := H
                                  replace H : (some t192) = some r := H
                                  have A81 := Aside0.mk A810
                                  clear A810
                                  obtain rfl := Option.some.inj H
                                  go_enter Try.func7, Try.ntmps7
                                  go_wp2_with (first | ((with_reducible refine gate_callee (f := 25) rfl ?_); refine goesL_ (some 11) rfl rfl Try.func25 (by kernel_rfl) rfl #[.string a0] rfl (by (try simp only [List.map_toArray, List.map_cons, List.map_nil]); first | done | rfl | (simp only [List.length_drop, List.length_take]; rfl)) ?_; (with_reducible refine (loc_Parse.calls a0 t185 t186 _ A5.out).mono ?_); rintro e w82 ⟨rfl, hb⟩; refine ⟨_, rfl, ?_⟩; have n0_ := Aside0.mk (below_step (by repeat (first | (with_reducible first | exact HB.out | apply below_alloc | apply pw_below_drewN | apply below_drew1) | exact HB.out)) hb); clear HB; have HB := n0_; clear n0_; (try clear hb); (try clear hb2); (try clear hk); (try clear hi); have p16 : 0 ≤ (0 : Int) := (by omega); have q16 : 0 < a0.size := (by have : (0 : Int) < (a0.size : Int) := of_decide_eq_true (by first | (with_reducible assumption) | assumption); omega); have hx16 : ∀ h : 0 < a0.size, ((a0[0]'h).toNat : Int) = bt a0 0 := bt_at a0 0; clear p16; have qi16 : (0 < (a0.size : Int)) = True := eq_true (of_decide_eq_true (by first | (with_reducible assumption) | assumption)); replace q16 := eq_true q16; have p65 : 0 ≤ (0 : Int) := (by omega); have q65 : 0 < a0.size := (by have : (0 : Int) < (a0.size : Int) := of_decide_eq_true (by first | (with_reducible assumption) | assumption); omega); have hx65 : ∀ h : 0 < a0.size, ((a0[0]'h).toNat : Int) = bt a0 0 := bt_at a0 0; clear p65; have qi65 : (0 < (a0.size : Int)) = True := eq_true (of_decide_eq_true (by first | (with_reducible assumption) | assumption)); replace q65 := eq_true q65; have p69 : 0 ≤ (1 : Int) := (by omega); have q69 : 1 < a0.size := (by have : (1 : Int) < (a0.size : Int) := of_decide_eq_true (by first | (with_reducible assumption) | assumption); omega); have hx69 : ∀ h : 1 < a0.size, ((a0[1]'h).toNat : Int) = bt a0 1 := bt_at a0 1; clear p69; have qi69 : (1 < (a0.size : Int)) = True := eq_true (of_decide_eq_true (by first | (with_reducible assumption) | assumption)); replace q69 := eq_true q69; have p74 : 0 ≤ (0 : Int) := (by omega); have q74 : 0 < a0.size := (by have : (0 : Int) < (a0.size : Int) := of_decide_eq_true (by first | (with_reducible assumption) | assumption); omega); have hx74 : ∀ h : 0 < a0.size, ((a0[0]'h).toNat : Int) = bt a0 0 := bt_at a0 0; clear p74; have qi74 : (0 < (a0.size : Int)) = True := eq_true (of_decide_eq_true (by first | (with_reducible assumption) | assumption)); replace q74 := eq_true q74; have p76 : 0 ≤ (1 : Int) := (by omega); have q76 : 1 < a0.size := (by have : (1 : Int) < (a0.size : Int) := of_decide_eq_true (by first | (with_reducible assumption) | assumption); omega); have hx76 : ∀ h : 1 < a0.size, ((a0[1]'h).toNat : Int) = bt a0 1 := bt_at a0 1; clear p76; have qi76 : (1 < (a0.size : Int)) = True := eq_true (of_decide_eq_true (by first | (with_reducible assumption) | assumption)); replace q76 := eq_true q76; have p79 : 0 ≤ (2 : Int) := (by omega); have q79 : 2 < a0.size := (by have : (2 : Int) < (a0.size : Int) := of_decide_eq_true (by first | (with_reducible assumption) | assumption); omega); have hx79 : ∀ h : 2 < a0.size, ((a0[2]'h).toNat : Int) = bt a0 2 := bt_at a0 2; clear p79; have qi79 : (2 < (a0.size : Int)) = True := eq_true (of_decide_eq_true (by first | (with_reducible assumption) | assumption)); replace q79 := eq_true q79) | (go_at_call 23; (with_reducible refine (joinerylaw02_knows.calls  t192 _ A81.out).mono ?_); rintro e w83 ⟨rfl, hb⟩; have n0_ := Aside0.mk (below_step (by repeat (first | (with_reducible first | exact HB.out | apply below_alloc | apply pw_below_drewN | apply below_drew1) | exact HB.out)) hb); clear HB; have HB := n0_; clear n0_; (try clear hb); (try clear hb2); (try clear hk); (try clear hi)))
                                  go_ret
                                  exact ⟨by first | rfl | (simp [errW_none, errW_some] <;> rfl) | (simp [*, errW_none, errW_some] <;> rfl), by repeat (first | (with_reducible first | exact HB.out | apply below_alloc | apply pw_below_drewN | apply below_drew1) | exact HB.out)⟩
                                · rw [if_neg c80] at H
                                  have c80b0 : (t185 == (wrap64 ((wrap64 (bt a0 2)) - 30))) = false := beq_eq_false_iff_ne.mpr c80
                                  have c80b1 : (t185 != (wrap64 ((wrap64 (bt a0 2)) - 30))) = true := bne_iff_ne.mpr c80
                                  obtain rfl := Option.some.inj H
                                  go_enter Try.func7, Try.ntmps7
                                  go_wp2_with (first | ((with_reducible refine gate_callee (f := 25) rfl ?_); refine goesL_ (some 11) rfl rfl Try.func25 (by kernel_rfl) rfl #[.string a0] rfl (by (try simp only [List.map_toArray, List.map_cons, List.map_nil]); first | done | rfl | (simp only [List.length_drop, List.length_take]; rfl)) ?_; (with_reducible refine (loc_Parse.calls a0 t185 t186 _ A5.out).mono ?_); rintro e w84 ⟨rfl, hb⟩; refine ⟨_, rfl, ?_⟩; have n0_ := Aside0.mk (below_step (by repeat (first | (with_reducible first | exact HB.out | apply below_alloc | apply pw_below_drewN | apply below_drew1) | exact HB.out)) hb); clear HB; have HB := n0_; clear n0_; (try clear hb); (try clear hb2); (try clear hk); (try clear hi); have p16 : 0 ≤ (0 : Int) := (by omega); have q16 : 0 < a0.size := (by have : (0 : Int) < (a0.size : Int) := of_decide_eq_true (by first | (with_reducible assumption) | assumption); omega); have hx16 : ∀ h : 0 < a0.size, ((a0[0]'h).toNat : Int) = bt a0 0 := bt_at a0 0; clear p16; have qi16 : (0 < (a0.size : Int)) = True := eq_true (of_decide_eq_true (by first | (with_reducible assumption) | assumption)); replace q16 := eq_true q16; have p65 : 0 ≤ (0 : Int) := (by omega); have q65 : 0 < a0.size := (by have : (0 : Int) < (a0.size : Int) := of_decide_eq_true (by first | (with_reducible assumption) | assumption); omega); have hx65 : ∀ h : 0 < a0.size, ((a0[0]'h).toNat : Int) = bt a0 0 := bt_at a0 0; clear p65; have qi65 : (0 < (a0.size : Int)) = True := eq_true (of_decide_eq_true (by first | (with_reducible assumption) | assumption)); replace q65 := eq_true q65; have p69 : 0 ≤ (1 : Int) := (by omega); have q69 : 1 < a0.size := (by have : (1 : Int) < (a0.size : Int) := of_decide_eq_true (by first | (with_reducible assumption) | assumption); omega); have hx69 : ∀ h : 1 < a0.size, ((a0[1]'h).toNat : Int) = bt a0 1 := bt_at a0 1; clear p69; have qi69 : (1 < (a0.size : Int)) = True := eq_true (of_decide_eq_true (by first | (with_reducible assumption) | assumption)); replace q69 := eq_true q69; have p74 : 0 ≤ (0 : Int) := (by omega); have q74 : 0 < a0.size := (by have : (0 : Int) < (a0.size : Int) := of_decide_eq_true (by first | (with_reducible assumption) | assumption); omega); have hx74 : ∀ h : 0 < a0.size, ((a0[0]'h).toNat : Int) = bt a0 0 := bt_at a0 0; clear p74; have qi74 : (0 < (a0.size : Int)) = True := eq_true (of_decide_eq_true (by first | (with_reducible assumption) | assumption)); replace q74 := eq_true q74; have p76 : 0 ≤ (1 : Int) := (by omega); have q76 : 1 < a0.size := (by have : (1 : Int) < (a0.size : Int) := of_decide_eq_true (by first | (with_reducible assumption) | assumption); omega); have hx76 : ∀ h : 1 < a0.size, ((a0[1]'h).toNat : Int) = bt a0 1 := bt_at a0 1; clear p76; have qi76 : (1 < (a0.size : Int)) = True := eq_true (of_decide_eq_true (by first | (with_reducible assumption) | assumption)); replace q76 := eq_true q76; have p79 : 0 ≤ (2 : Int) := (by omega); have q79 : 2 < a0.size := (by have : (2 : Int) < (a0.size : Int) := of_decide_eq_true (by first | (with_reducible assumption) | assumption); omega); have hx79 : ∀ h : 2 < a0.size, ((a0[2]'h).toNat : Int) = bt a0 2 := bt_at a0 2; clear p79; have qi79 : (2 < (a0.size : Int)) = True := eq_true (of_decide_eq_true (by first | (with_reducible assumption) | assumption)); replace q79 := eq_true q79))
                                  go_ret
                                  exact ⟨by first | rfl | (simp [errW_none, errW_some] <;> rfl) | (simp [*, errW_none, errW_some] <;> rfl), by repeat (first | (with_reducible first | exact HB.out | apply below_alloc | apply pw_below_drewN | apply below_drew1) | exact HB.out)⟩
                              · rw [if_neg c78] at H
                                exact absurd H (by simp)
                            · rw [if_neg c77] at H
                              have c77b0 : ((bt a0 1) == 49) = false := beq_eq_false_iff_ne.mpr c77
                              have c77b1 : ((bt a0 1) != 49) = true := bne_iff_ne.mpr c77
                              obtain rfl := Option.some.inj H
                              go_enter Try.func7, Try.ntmps7
                              go_wp2_with (first | ((with_reducible refine gate_callee (f := 25) rfl ?_); refine goesL_ (some 11) rfl rfl Try.func25 (by kernel_rfl) rfl #[.string a0] rfl (by (try simp only [List.map_toArray, List.map_cons, List.map_nil]); first | done | rfl | (simp only [List.length_drop, List.length_take]; rfl)) ?_; (with_reducible refine (loc_Parse.calls a0 t185 t186 _ A5.out).mono ?_); rintro e w85 ⟨rfl, hb⟩; refine ⟨_, rfl, ?_⟩; have n0_ := Aside0.mk (below_step (by repeat (first | (with_reducible first | exact HB.out | apply below_alloc | apply pw_below_drewN | apply below_drew1) | exact HB.out)) hb); clear HB; have HB := n0_; clear n0_; (try clear hb); (try clear hb2); (try clear hk); (try clear hi); have p16 : 0 ≤ (0 : Int) := (by omega); have q16 : 0 < a0.size := (by have : (0 : Int) < (a0.size : Int) := of_decide_eq_true (by first | (with_reducible assumption) | assumption); omega); have hx16 : ∀ h : 0 < a0.size, ((a0[0]'h).toNat : Int) = bt a0 0 := bt_at a0 0; clear p16; have qi16 : (0 < (a0.size : Int)) = True := eq_true (of_decide_eq_true (by first | (with_reducible assumption) | assumption)); replace q16 := eq_true q16; have p65 : 0 ≤ (0 : Int) := (by omega); have q65 : 0 < a0.size := (by have : (0 : Int) < (a0.size : Int) := of_decide_eq_true (by first | (with_reducible assumption) | assumption); omega); have hx65 : ∀ h : 0 < a0.size, ((a0[0]'h).toNat : Int) = bt a0 0 := bt_at a0 0; clear p65; have qi65 : (0 < (a0.size : Int)) = True := eq_true (of_decide_eq_true (by first | (with_reducible assumption) | assumption)); replace q65 := eq_true q65; have p69 : 0 ≤ (1 : Int) := (by omega); have q69 : 1 < a0.size := (by have : (1 : Int) < (a0.size : Int) := of_decide_eq_true (by first | (with_reducible assumption) | assumption); omega); have hx69 : ∀ h : 1 < a0.size, ((a0[1]'h).toNat : Int) = bt a0 1 := bt_at a0 1; clear p69; have qi69 : (1 < (a0.size : Int)) = True := eq_true (of_decide_eq_true (by first | (with_reducible assumption) | assumption)); replace q69 := eq_true q69; have p74 : 0 ≤ (0 : Int) := (by omega); have q74 : 0 < a0.size := (by have : (0 : Int) < (a0.size : Int) := of_decide_eq_true (by first | (with_reducible assumption) | assumption); omega); have hx74 : ∀ h : 0 < a0.size, ((a0[0]'h).toNat : Int) = bt a0 0 := bt_at a0 0; clear p74; have qi74 : (0 < (a0.size : Int)) = True := eq_true (of_decide_eq_true (by first | (with_reducible assumption) | assumption)); replace q74 := eq_true q74; have p76 : 0 ≤ (1 : Int) := (by omega); have q76 : 1 < a0.size := (by have : (1 : Int) < (a0.size : Int) := of_decide_eq_true (by first | (with_reducible assumption) | assumption); omega); have hx76 : ∀ h : 1 < a0.size, ((a0[1]'h).toNat : Int) = bt a0 1 := bt_at a0 1; clear p76; have qi76 : (1 < (a0.size : Int)) = True := eq_true (of_decide_eq_true (by first | (with_reducible assumption) | assumption)); replace q76 := eq_true q76))
                              go_ret
                              exact ⟨by first | rfl | (simp [errW_none, errW_some] <;> rfl) | (simp [*, errW_none, errW_some] <;> rfl), by repeat (first | (with_reducible first | exact HB.out | apply below_alloc | apply pw_below_drewN | apply below_drew1) | exact HB.out)⟩
                          · rw [if_neg c75] at H
                            have c75b0 : ((a0.size : Int) == 3) = false := beq_eq_false_iff_ne.mpr c75
                            have c75b1 : ((a0.size : Int) != 3) = true := bne_iff_ne.mpr c75
                            obtain rfl := Option.some.inj H
                            go_enter Try.func7, Try.ntmps7
                            go_wp2_with (first | ((with_reducible refine gate_callee (f := 25) rfl ?_); refine goesL_ (some 11) rfl rfl Try.func25 (by kernel_rfl) rfl #[.string a0] rfl (by (try simp only [List.map_toArray, List.map_cons, List.map_nil]); first | done | rfl | (simp only [List.length_drop, List.length_take]; rfl)) ?_; (with_reducible refine (loc_Parse.calls a0 t185 t186 _ A5.out).mono ?_); rintro e w86 ⟨rfl, hb⟩; refine ⟨_, rfl, ?_⟩; have n0_ := Aside0.mk (below_step (by repeat (first | (with_reducible first | exact HB.out | apply below_alloc | apply pw_below_drewN | apply below_drew1) | exact HB.out)) hb); clear HB; have HB := n0_; clear n0_; (try clear hb); (try clear hb2); (try clear hk); (try clear hi); have p16 : 0 ≤ (0 : Int) := (by omega); have q16 : 0 < a0.size := (by have : (0 : Int) < (a0.size : Int) := of_decide_eq_true (by first | (with_reducible assumption) | assumption); omega); have hx16 : ∀ h : 0 < a0.size, ((a0[0]'h).toNat : Int) = bt a0 0 := bt_at a0 0; clear p16; have qi16 : (0 < (a0.size : Int)) = True := eq_true (of_decide_eq_true (by first | (with_reducible assumption) | assumption)); replace q16 := eq_true q16; have p65 : 0 ≤ (0 : Int) := (by omega); have q65 : 0 < a0.size := (by have : (0 : Int) < (a0.size : Int) := of_decide_eq_true (by first | (with_reducible assumption) | assumption); omega); have hx65 : ∀ h : 0 < a0.size, ((a0[0]'h).toNat : Int) = bt a0 0 := bt_at a0 0; clear p65; have qi65 : (0 < (a0.size : Int)) = True := eq_true (of_decide_eq_true (by first | (with_reducible assumption) | assumption)); replace q65 := eq_true q65; have p69 : 0 ≤ (1 : Int) := (by omega); have q69 : 1 < a0.size := (by have : (1 : Int) < (a0.size : Int) := of_decide_eq_true (by first | (with_reducible assumption) | assumption); omega); have hx69 : ∀ h : 1 < a0.size, ((a0[1]'h).toNat : Int) = bt a0 1 := bt_at a0 1; clear p69; have qi69 : (1 < (a0.size : Int)) = True := eq_true (of_decide_eq_true (by first | (with_reducible assumption) | assumption)); replace q69 := eq_true q69; have p74 : 0 ≤ (0 : Int) := (by omega); have q74 : 0 < a0.size := (by have : (0 : Int) < (a0.size : Int) := of_decide_eq_true (by first | (with_reducible assumption) | assumption); omega); have hx74 : ∀ h : 0 < a0.size, ((a0[0]'h).toNat : Int) = bt a0 0 := bt_at a0 0; clear p74; have qi74 : (0 < (a0.size : Int)) = True := eq_true (of_decide_eq_true (by first | (with_reducible assumption) | assumption)); replace q74 := eq_true q74))
                            go_ret
                            exact ⟨by first | rfl | (simp [errW_none, errW_some] <;> rfl) | (simp [*, errW_none, errW_some] <;> rfl), by repeat (first | (with_reducible first | exact HB.out | apply below_alloc | apply pw_below_drewN | apply below_drew1) | exact HB.out)⟩
                      · rw [if_neg c68] at H
                        exact absurd H (by simp)
                    · rw [if_neg c67] at H
                      have c67b0 : ((a0.size : Int) == 2) = false := beq_eq_false_iff_ne.mpr c67
                      have c67b1 : ((a0.size : Int) != 2) = true := bne_iff_ne.mpr c67
                      by_cases c88 : (a0.size : Int) = 3
                      · rw [if_pos c88] at H
                        have c88b0 : ((a0.size : Int) == 3) = true := beq_iff_eq.mpr c88
                        have c88b1 : ((a0.size : Int) != 3) = false := bne_eq_false_iff_eq.mpr c88
                        clear c88
                        by_cases c89 : 1 < (a0.size : Int)
                        · rw [if_pos c89] at H
                          have c89b0 : decide (1 < (a0.size : Int)) = true := decide_eq_true c89
                          have c89b1 : decide (1 < a0.size) = true := decide_eq_true (by omega)
                          clear c89
                          by_cases c91 : (bt a0 1) = 49
                          · rw [if_pos c91] at H
                            have c91b0 : ((bt a0 1) == 49) = true := beq_iff_eq.mpr c91
                            have c91b1 : ((bt a0 1) != 49) = false := bne_eq_false_iff_eq.mpr c91
                            clear c91
                            by_cases c92 : 2 < (a0.size : Int)
                            · rw [if_pos c92] at H
                              have c92b0 : decide (2 < (a0.size : Int)) = true := decide_eq_true c92
                              have c92b1 : decide (2 < a0.size) = true := decide_eq_true (by omega)
                              clear c92
                              by_cases c94 : t185 = (wrap64 ((wrap64 (bt a0 2)) - 30))
                              · rw [if_pos c94] at H
                                have c94b0 : (t185 == (wrap64 ((wrap64 (bt a0 2)) - 30))) = true := beq_iff_eq.mpr c94
                                have c94b1 : (t185 != (wrap64 ((wrap64 (bt a0 2)) - 30))) = false := bne_eq_false_iff_eq.mpr c94
                                clear c94
                                replace H := Option.bind_eq_some_iff.mp H
                                obtain ⟨t193, A950, H⟩ := H
                                replace H : (some t193) = some r := H
                                have A95 := Aside0.mk A950
                                clear A950
                                obtain rfl := Option.some.inj H
                                go_enter Try.func7, Try.ntmps7
                                go_wp2_with (first | ((with_reducible refine gate_callee (f := 25) rfl ?_); refine goesL_ (some 11) rfl rfl Try.func25 (by kernel_rfl) rfl #[.string a0] rfl (by (try simp only [List.map_toArray, List.map_cons, List.map_nil]); first | done | rfl | (simp only [List.length_drop, List.length_take]; rfl)) ?_; (with_reducible refine (loc_Parse.calls a0 t185 t186 _ A5.out).mono ?_); rintro e w96 ⟨rfl, hb⟩; refine ⟨_, rfl, ?_⟩; have n0_ := Aside0.mk (below_step (by repeat (first | (with_reducible first | exact HB.out | apply below_alloc | apply pw_below_drewN | apply below_drew1) | exact HB.out)) hb); clear HB; have HB := n0_; clear n0_; (try clear hb); (try clear hb2); (try clear hk); (try clear hi); have p16 : 0 ≤ (0 : Int) := (by omega); have q16 : 0 < a0.size := (by have : (0 : Int) < (a0.size : Int) := of_decide_eq_true (by first | (with_reducible assumption) | assumption); omega); have hx16 : ∀ h : 0 < a0.size, ((a0[0]'h).toNat : Int) = bt a0 0 := bt_at a0 0; clear p16; have qi16 : (0 < (a0.size : Int)) = True := eq_true (of_decide_eq_true (by first | (with_reducible assumption) | assumption)); replace q16 := eq_true q16; have p65 : 0 ≤ (0 : Int) := (by omega); have q65 : 0 < a0.size := (by have : (0 : Int) < (a0.size : Int) := of_decide_eq_true (by first | (with_reducible assumption) | assumption); omega); have hx65 : ∀ h : 0 < a0.size, ((a0[0]'h).toNat : Int) = bt a0 0 := bt_at a0 0; clear p65; have qi65 : (0 < (a0.size : Int)) = True := eq_true (of_decide_eq_true (by first | (with_reducible assumption) | assumption)); replace q65 := eq_true q65; have p87 : 0 ≤ (0 : Int) := (by omega); have q87 : 0 < a0.size := (by have : (0 : Int) < (a0.size : Int) := of_decide_eq_true (by first | (with_reducible assumption) | assumption); omega); have hx87 : ∀ h : 0 < a0.size, ((a0[0]'h).toNat : Int) = bt a0 0 := bt_at a0 0; clear p87; have qi87 : (0 < (a0.size : Int)) = True := eq_true (of_decide_eq_true (by first | (with_reducible assumption) | assumption)); replace q87 := eq_true q87; have p90 : 0 ≤ (1 : Int) := (by omega); have q90 : 1 < a0.size := (by have : (1 : Int) < (a0.size : Int) := of_decide_eq_true (by first | (with_reducible assumption) | assumption); omega); have hx90 : ∀ h : 1 < a0.size, ((a0[1]'h).toNat : Int) = bt a0 1 := bt_at a0 1; clear p90; have qi90 : (1 < (a0.size : Int)) = True := eq_true (of_decide_eq_true (by first | (with_reducible assumption) | assumption)); replace q90 := eq_true q90; have p93 : 0 ≤ (2 : Int) := (by omega); have q93 : 2 < a0.size := (by have : (2 : Int) < (a0.size : Int) := of_decide_eq_true (by first | (with_reducible assumption) | assumption); omega); have hx93 : ∀ h : 2 < a0.size, ((a0[2]'h).toNat : Int) = bt a0 2 := bt_at a0 2; clear p93; have qi93 : (2 < (a0.size : Int)) = True := eq_true (of_decide_eq_true (by first | (with_reducible assumption) | assumption)); replace q93 := eq_true q93) | (go_at_call 23; (with_reducible refine (joinerylaw02_knows.calls  t193 _ A95.out).mono ?_); rintro e w97 ⟨rfl, hb⟩; have n0_ := Aside0.mk (below_step (by repeat (first | (with_reducible first | exact HB.out | apply below_alloc | apply pw_below_drewN | apply below_drew1) | exact HB.out)) hb); clear HB; have HB := n0_; clear n0_; (try clear hb); (try clear hb2); (try clear hk); (try clear hi)))
                                go_ret
                                exact ⟨by first | rfl | (simp [errW_none, errW_some] <;> rfl) | (simp [*, errW_none, errW_some] <;> rfl), by repeat (first | (with_reducible first | exact HB.out | apply below_alloc | apply pw_below_drewN | apply below_drew1) | exact HB.out)⟩
                              · rw [if_neg c94] at H
                                have c94b0 : (t185 == (wrap64 ((wrap64 (bt a0 2)) - 30))) = false := beq_eq_false_iff_ne.mpr c94
                                have c94b1 : (t185 != (wrap64 ((wrap64 (bt a0 2)) - 30))) = true := bne_iff_ne.mpr c94
                                obtain rfl := Option.some.inj H
                                go_enter Try.func7, Try.ntmps7
                                go_wp2_with (first | ((with_reducible refine gate_callee (f := 25) rfl ?_); refine goesL_ (some 11) rfl rfl Try.func25 (by kernel_rfl) rfl #[.string a0] rfl (by (try simp only [List.map_toArray, List.map_cons, List.map_nil]); first | done | rfl | (simp only [List.length_drop, List.length_take]; rfl)) ?_; (with_reducible refine (loc_Parse.calls a0 t185 t186 _ A5.out).mono ?_); rintro e w98 ⟨rfl, hb⟩; refine ⟨_, rfl, ?_⟩; have n0_ := Aside0.mk (below_step (by repeat (first | (with_reducible first | exact HB.out | apply below_alloc | apply pw_below_drewN | apply below_drew1) | exact HB.out)) hb); clear HB; have HB := n0_; clear n0_; (try clear hb); (try clear hb2); (try clear hk); (try clear hi); have p16 : 0 ≤ (0 : Int) := (by omega); have q16 : 0 < a0.size := (by have : (0 : Int) < (a0.size : Int) := of_decide_eq_true (by first | (with_reducible assumption) | assumption); omega); have hx16 : ∀ h : 0 < a0.size, ((a0[0]'h).toNat : Int) = bt a0 0 := bt_at a0 0; clear p16; have qi16 : (0 < (a0.size : Int)) = True := eq_true (of_decide_eq_true (by first | (with_reducible assumption) | assumption)); replace q16 := eq_true q16; have p65 : 0 ≤ (0 : Int) := (by omega); have q65 : 0 < a0.size := (by have : (0 : Int) < (a0.size : Int) := of_decide_eq_true (by first | (with_reducible assumption) | assumption); omega); have hx65 : ∀ h : 0 < a0.size, ((a0[0]'h).toNat : Int) = bt a0 0 := bt_at a0 0; clear p65; have qi65 : (0 < (a0.size : Int)) = True := eq_true (of_decide_eq_true (by first | (with_reducible assumption) | assumption)); replace q65 := eq_true q65; have p87 : 0 ≤ (0 : Int) := (by omega); have q87 : 0 < a0.size := (by have : (0 : Int) < (a0.size : Int) := of_decide_eq_true (by first | (with_reducible assumption) | assumption); omega); have hx87 : ∀ h : 0 < a0.size, ((a0[0]'h).toNat : Int) = bt a0 0 := bt_at a0 0; clear p87; have qi87 : (0 < (a0.size : Int)) = True := eq_true (of_decide_eq_true (by first | (with_reducible assumption) | assumption)); replace q87 := eq_true q87; have p90 : 0 ≤ (1 : Int) := (by omega); have q90 : 1 < a0.size := (by have : (1 : Int) < (a0.size : Int) := of_decide_eq_true (by first | (with_reducible assumption) | assumption); omega); have hx90 : ∀ h : 1 < a0.size, ((a0[1]'h).toNat : Int) = bt a0 1 := bt_at a0 1; clear p90; have qi90 : (1 < (a0.size : Int)) = True := eq_true (of_decide_eq_true (by first | (with_reducible assumption) | assumption)); replace q90 := eq_true q90; have p93 : 0 ≤ (2 : Int) := (by omega); have q93 : 2 < a0.size := (by have : (2 : Int) < (a0.size : Int) := of_decide_eq_true (by first | (with_reducible assumption) | assumption); omega); have hx93 : ∀ h : 2 < a0.size, ((a0[2]'h).toNat : Int) = bt a0 2 := bt_at a0 2; clear p93; have qi93 : (2 < (a0.size : Int)) = True := eq_true (of_decide_eq_true (by first | (with_reducible assumption) | assumption)); replace q93 := eq_true q93))
                                go_ret
                                exact ⟨by first | rfl | (simp [errW_none, errW_some] <;> rfl) | (simp [*, errW_none, errW_some] <;> rfl), by repeat (first | (with_reducible first | exact HB.out | apply below_alloc | apply pw_below_drewN | apply below_drew1) | exact HB.out)⟩
                            · rw [if_neg c92] at H
                              exact absurd H (by simp)
                          · rw [if_neg c91] at H
                            have c91b0 : ((bt a0 1) == 49) = false := beq_eq_false_iff_ne.mpr c91
                            have c91b1 : ((bt a0 1) != 49) = true := bne_iff_ne.mpr c91
                            obtain rfl := Option.some.inj H
                            go_enter Try.func7, Try.ntmps7
                            go_wp2_with (first | ((with_reducible refine gate_callee (f := 25) rfl ?_); refine goesL_ (some 11) rfl rfl Try.func25 (by kernel_rfl) rfl #[.string a0] rfl (by (try simp only [List.map_toArray, List.map_cons, List.map_nil]); first | done | rfl | (simp only [List.length_drop, List.length_take]; rfl)) ?_; (with_reducible refine (loc_Parse.calls a0 t185 t186 _ A5.out).mono ?_); rintro e w99 ⟨rfl, hb⟩; refine ⟨_, rfl, ?_⟩; have n0_ := Aside0.mk (below_step (by repeat (first | (with_reducible first | exact HB.out | apply below_alloc | apply pw_below_drewN | apply below_drew1) | exact HB.out)) hb); clear HB; have HB := n0_; clear n0_; (try clear hb); (try clear hb2); (try clear hk); (try clear hi); have p16 : 0 ≤ (0 : Int) := (by omega); have q16 : 0 < a0.size := (by have : (0 : Int) < (a0.size : Int) := of_decide_eq_true (by first | (with_reducible assumption) | assumption); omega); have hx16 : ∀ h : 0 < a0.size, ((a0[0]'h).toNat : Int) = bt a0 0 := bt_at a0 0; clear p16; have qi16 : (0 < (a0.size : Int)) = True := eq_true (of_decide_eq_true (by first | (with_reducible assumption) | assumption)); replace q16 := eq_true q16; have p65 : 0 ≤ (0 : Int) := (by omega); have q65 : 0 < a0.size := (by have : (0 : Int) < (a0.size : Int) := of_decide_eq_true (by first | (with_reducible assumption) | assumption); omega); have hx65 : ∀ h : 0 < a0.size, ((a0[0]'h).toNat : Int) = bt a0 0 := bt_at a0 0; clear p65; have qi65 : (0 < (a0.size : Int)) = True := eq_true (of_decide_eq_true (by first | (with_reducible assumption) | assumption)); replace q65 := eq_true q65; have p87 : 0 ≤ (0 : Int) := (by omega); have q87 : 0 < a0.size := (by have : (0 : Int) < (a0.size : Int) := of_decide_eq_true (by first | (with_reducible assumption) | assumption); omega); have hx87 : ∀ h : 0 < a0.size, ((a0[0]'h).toNat : Int) = bt a0 0 := bt_at a0 0; clear p87; have qi87 : (0 < (a0.size : Int)) = True := eq_true (of_decide_eq_true (by first | (with_reducible assumption) | assumption)); replace q87 := eq_true q87; have p90 : 0 ≤ (1 : Int) := (by omega); have q90 : 1 < a0.size := (by have : (1 : Int) < (a0.size : Int) := of_decide_eq_true (by first | (with_reducible assumption) | assumption); omega); have hx90 : ∀ h : 1 < a0.size, ((a0[1]'h).toNat : Int) = bt a0 1 := bt_at a0 1; clear p90; have qi90 : (1 < (a0.size : Int)) = True := eq_true (of_decide_eq_true (by first | (with_reducible assumption) | assumption)); replace q90 := eq_true q90))
                            go_ret
                            exact ⟨by first | rfl | (simp [errW_none, errW_some] <;> rfl) | (simp [*, errW_none, errW_some] <;> rfl), by repeat (first | (with_reducible first | exact HB.out | apply below_alloc | apply pw_below_drewN | apply below_drew1) | exact HB.out)⟩
                        · rw [if_neg c89] at H
                          exact absurd H (by simp)
                      · rw [if_neg c88] at H
                        have c88b0 : ((a0.size : Int) == 3) = false := beq_eq_false_iff_ne.mpr c88
                        have c88b1 : ((a0.size : Int) != 3) = true := bne_iff_ne.mpr c88
                        obtain rfl := Option.some.inj H
                        go_enter Try.func7, Try.ntmps7
                        go_wp2_with (first | ((with_reducible refine gate_callee (f := 25) rfl ?_); refine goesL_ (some 11) rfl rfl Try.func25 (by kernel_rfl) rfl #[.string a0] rfl (by (try simp only [List.map_toArray, List.map_cons, List.map_nil]); first | done | rfl | (simp only [List.length_drop, List.length_take]; rfl)) ?_; (with_reducible refine (loc_Parse.calls a0 t185 t186 _ A5.out).mono ?_); rintro e w100 ⟨rfl, hb⟩; refine ⟨_, rfl, ?_⟩; have n0_ := Aside0.mk (below_step (by repeat (first | (with_reducible first | exact HB.out | apply below_alloc | apply pw_below_drewN | apply below_drew1) | exact HB.out)) hb); clear HB; have HB := n0_; clear n0_; (try clear hb); (try clear hb2); (try clear hk); (try clear hi); have p16 : 0 ≤ (0 : Int) := (by omega); have q16 : 0 < a0.size := (by have : (0 : Int) < (a0.size : Int) := of_decide_eq_true (by first | (with_reducible assumption) | assumption); omega); have hx16 : ∀ h : 0 < a0.size, ((a0[0]'h).toNat : Int) = bt a0 0 := bt_at a0 0; clear p16; have qi16 : (0 < (a0.size : Int)) = True := eq_true (of_decide_eq_true (by first | (with_reducible assumption) | assumption)); replace q16 := eq_true q16; have p65 : 0 ≤ (0 : Int) := (by omega); have q65 : 0 < a0.size := (by have : (0 : Int) < (a0.size : Int) := of_decide_eq_true (by first | (with_reducible assumption) | assumption); omega); have hx65 : ∀ h : 0 < a0.size, ((a0[0]'h).toNat : Int) = bt a0 0 := bt_at a0 0; clear p65; have qi65 : (0 < (a0.size : Int)) = True := eq_true (of_decide_eq_true (by first | (with_reducible assumption) | assumption)); replace q65 := eq_true q65; have p87 : 0 ≤ (0 : Int) := (by omega); have q87 : 0 < a0.size := (by have : (0 : Int) < (a0.size : Int) := of_decide_eq_true (by first | (with_reducible assumption) | assumption); omega); have hx87 : ∀ h : 0 < a0.size, ((a0[0]'h).toNat : Int) = bt a0 0 := bt_at a0 0; clear p87; have qi87 : (0 < (a0.size : Int)) = True := eq_true (of_decide_eq_true (by first | (with_reducible assumption) | assumption)); replace q87 := eq_true q87))
                        go_ret
                        exact ⟨by first | rfl | (simp [errW_none, errW_some] <;> rfl) | (simp [*, errW_none, errW_some] <;> rfl), by repeat (first | (with_reducible first | exact HB.out | apply below_alloc | apply pw_below_drewN | apply below_drew1) | exact HB.out)⟩
                  · rw [if_neg c66] at H
                    have c66b0 : ((bt a0 0) == 115) = false := beq_eq_false_iff_ne.mpr c66
                    have c66b1 : ((bt a0 0) != 115) = true := bne_iff_ne.mpr c66
                    obtain rfl := Option.some.inj H
                    go_enter Try.func7, Try.ntmps7
                    go_wp2_with (first | ((with_reducible refine gate_callee (f := 25) rfl ?_); refine goesL_ (some 11) rfl rfl Try.func25 (by kernel_rfl) rfl #[.string a0] rfl (by (try simp only [List.map_toArray, List.map_cons, List.map_nil]); first | done | rfl | (simp only [List.length_drop, List.length_take]; rfl)) ?_; (with_reducible refine (loc_Parse.calls a0 t185 t186 _ A5.out).mono ?_); rintro e w102 ⟨rfl, hb⟩; refine ⟨_, rfl, ?_⟩; have n0_ := Aside0.mk (below_step (by repeat (first | (with_reducible first | exact HB.out | apply below_alloc | apply pw_below_drewN | apply below_drew1) | exact HB.out)) hb); clear HB; have HB := n0_; clear n0_; (try clear hb); (try clear hb2); (try clear hk); (try clear hi); have p16 : 0 ≤ (0 : Int) := (by omega); have q16 : 0 < a0.size := (by have : (0 : Int) < (a0.size : Int) := of_decide_eq_true (by first | (with_reducible assumption) | assumption); omega); have hx16 : ∀ h : 0 < a0.size, ((a0[0]'h).toNat : Int) = bt a0 0 := bt_at a0 0; clear p16; have qi16 : (0 < (a0.size : Int)) = True := eq_true (of_decide_eq_true (by first | (with_reducible assumption) | assumption)); replace q16 := eq_true q16; have p65 : 0 ≤ (0 : Int) := (by omega); have q65 : 0 < a0.size := (by have : (0 : Int) < (a0.size : Int) := of_decide_eq_true (by first | (with_reducible assumption) | assumption); omega); have hx65 : ∀ h : 0 < a0.size, ((a0[0]'h).toNat : Int) = bt a0 0 := bt_at a0 0; clear p65; have qi65 : (0 < (a0.size : Int)) = True := eq_true (of_decide_eq_true (by first | (with_reducible assumption) | assumption)); replace q65 := eq_true q65; have p101 : 0 ≤ (0 : Int) := (by omega); have q101 : 0 < a0.size := (by have : (0 : Int) < (a0.size : Int) := of_decide_eq_true (by first | (with_reducible assumption) | assumption); omega); have hx101 : ∀ h : 0 < a0.size, ((a0[0]'h).toNat : Int) = bt a0 0 := bt_at a0 0; clear p101; have qi101 : (0 < (a0.size : Int)) = True := eq_true (of_decide_eq_true (by first | (with_reducible assumption) | assumption)); replace q101 := eq_true q101))
                    go_ret
                    exact ⟨by first | rfl | (simp [errW_none, errW_some] <;> rfl) | (simp [*, errW_none, errW_some] <;> rfl), by repeat (first | (with_reducible first | exact HB.out | apply below_alloc | apply pw_below_drewN | apply below_drew1) | exact HB.out)⟩
              · rw [if_neg c15] at H
                exact absurd H (by simp)
    · rw [if_neg c6] at H
      have c6b0 : (t186 == 0) = false := beq_eq_false_iff_ne.mpr c6
      have c6b1 : (t186 != 0) = true := bne_iff_ne.mpr c6
      by_cases c103 : t185 = 0
      · rw [if_pos c103] at H
        have c103b0 : (t185 == 0) = true := beq_iff_eq.mpr c103
        have c103b1 : (t185 != 0) = false := bne_eq_false_iff_eq.mpr c103
        clear c103
        replace H := Option.bind_eq_some_iff.mp H
        obtain ⟨t194, A1040, H⟩ := H
        replace H : (some t194) = some r := H
        have A104 := Aside0.mk A1040
        clear A1040
        obtain rfl := Option.some.inj H
        go_enter Try.func7, Try.ntmps7
        go_wp2_with (first | ((with_reducible refine gate_callee (f := 25) rfl ?_); refine goesL_ (some 11) rfl rfl Try.func25 (by kernel_rfl) rfl #[.string a0] rfl (by (try simp only [List.map_toArray, List.map_cons, List.map_nil]); first | done | rfl | (simp only [List.length_drop, List.length_take]; rfl)) ?_; (with_reducible refine (loc_Parse.calls a0 t185 t186 _ A5.out).mono ?_); rintro e w105 ⟨rfl, hb⟩; refine ⟨_, rfl, ?_⟩; have n0_ := Aside0.mk (below_step (by repeat (first | (with_reducible first | exact HB.out | apply below_alloc | apply pw_below_drewN | apply below_drew1) | exact HB.out)) hb); clear HB; have HB := n0_; clear n0_; (try clear hb); (try clear hb2); (try clear hk); (try clear hi)) | (go_at_call 23; (with_reducible refine (joinerylaw02_knows.calls  t194 _ A104.out).mono ?_); rintro e w106 ⟨rfl, hb⟩; have n0_ := Aside0.mk (below_step (by repeat (first | (with_reducible first | exact HB.out | apply below_alloc | apply pw_below_drewN | apply below_drew1) | exact HB.out)) hb); clear HB; have HB := n0_; clear n0_; (try clear hb); (try clear hb2); (try clear hk); (try clear hi)))
        go_ret
        exact ⟨by first | rfl | (simp [errW_none, errW_some] <;> rfl) | (simp [*, errW_none, errW_some] <;> rfl), by repeat (first | (with_reducible first | exact HB.out | apply below_alloc | apply pw_below_drewN | apply below_drew1) | exact HB.out)⟩
      · rw [if_neg c103] at H
        have c103b0 : (t185 == 0) = false := beq_eq_false_iff_ne.mpr c103
        have c103b1 : (t185 != 0) = true := bne_iff_ne.mpr c103
        obtain rfl := Option.some.inj H
        go_enter Try.func7, Try.ntmps7
        go_wp2_with (first | ((with_reducible refine gate_callee (f := 25) rfl ?_); refine goesL_ (some 11) rfl rfl Try.func25 (by kernel_rfl) rfl #[.string a0] rfl (by (try simp only [List.map_toArray, List.map_cons, List.map_nil]); first | done | rfl | (simp only [List.length_drop, List.length_take]; rfl)) ?_; (with_reducible refine (loc_Parse.calls a0 t185 t186 _ A5.out).mono ?_); rintro e w107 ⟨rfl, hb⟩; refine ⟨_, rfl, ?_⟩; have n0_ := Aside0.mk (below_step (by repeat (first | (with_reducible first | exact HB.out | apply below_alloc | apply pw_below_drewN | apply below_drew1) | exact HB.out)) hb); clear HB; have HB := n0_; clear n0_; (try clear hb); (try clear hb2); (try clear hk); (try clear hi)))
        go_ret
        exact ⟨by first | rfl | (simp [errW_none, errW_some] <;> rfl) | (simp [*, errW_none, errW_some] <;> rfl), by repeat (first | (with_reducible first | exact HB.out | apply below_alloc | apply pw_below_drewN | apply below_drew1) | exact HB.out)⟩

/-- THE ONE PURE STATEMENT of joinerylaw02_LocFew: yours. -/
def joinerylaw02_LocFew.Pure : Prop := ∀ (a0 : ByteArray), a0.size ≤ 140737488351232 → joinerylaw02_LocFew.f a0 = some true
theorem joinerylaw02_LocFew.walk (P : joinerylaw02_LocFew.Pure) (a0 : ByteArray) (w : World) (w0 : a0.size ≤ 140737488351232) :
    Calls Try.prog 7 #[.string a0] w fun e w' => e = .returned (.bool true) ∧ Below w.heap.size w w' := by
  have h := P a0 w0
  refine (joinerylaw02_LocFew.calls a0 true w h).mono ?_
  rintro e w' ⟨rfl, hd⟩
  exact ⟨rfl, hd⟩

-- function 27 (num_Do): in a text of its own

/-! ### joineryref01_Do: function 28 -/
def joineryref01_Do.f (a0 : Int) (a1 : Int) (a2 : Int) : Option (Int × Int) := if a0 = 4 then (some (wrap64 (a1 + a2), 0)) else (if a0 = 5 then (some (wrap64 (a1 + (wrap64 (-a2))), 0)) else (if a0 = 6 then (some (wrap64 (a1 * a2), 0)) else (if a0 = 7 then (if a2 = 0 then (some (0, 3)) else (if a2 = (-1) then (some (wrap64 (-a1), 0)) else (some (wrap64 (Int.tdiv a1 a2), 0)))) else (if a0 = 8 then (some (Go.bits .and .i64 a1 a2, 0)) else (if a0 = 9 then (some (Go.bits .or .i64 a1 a2, 0)) else (if a0 = 10 then (some (wrap64 ((Go.bits .or .i64 a1 a2) - (Go.bits .and .i64 a1 a2)), 0)) else (if a0 = 11 then (if a2 > a1 then (some (1, 0)) else (some (0, 0))) else (if a0 = 12 then (if a1 < a2 then (some (0, 0)) else (if a1 > a2 then (some (0, 0)) else (some (1, 0)))) else (some (0, 2))))))))))
set_option maxHeartbeats 8000000 in
set_option maxRecDepth 100000 in
theorem joineryref01_Do.calls (a0 : Int) (a1 : Int) (a2 : Int) (r1 : Int) (r2 : Int) (w : World) (h : joineryref01_Do.f a0 a1 a2 = some (r1, r2)) :
    Calls Try.prog 28 #[.int .i64 a0, .int .i64 a1, .int .i64 a2] w fun e w' => e = .returned (.tuple #[.int .i64 r1, .int .i64 r2]) ∧ Drawn0 w w' := by
  have H : (if a0 = 4 then (some (wrap64 (a1 + a2), 0)) else (if a0 = 5 then (some (wrap64 (a1 + (wrap64 (-a2))), 0)) else (if a0 = 6 then (some (wrap64 (a1 * a2), 0)) else (if a0 = 7 then (if a2 = 0 then (some (0, 3)) else (if a2 = (-1) then (some (wrap64 (-a1), 0)) else (some (wrap64 (Int.tdiv a1 a2), 0)))) else (if a0 = 8 then (some (Go.bits .and .i64 a1 a2, 0)) else (if a0 = 9 then (some (Go.bits .or .i64 a1 a2, 0)) else (if a0 = 10 then (some (wrap64 ((Go.bits .or .i64 a1 a2) - (Go.bits .and .i64 a1 a2)), 0)) else (if a0 = 11 then (if a2 > a1 then (some (1, 0)) else (some (0, 0))) else (if a0 = 12 then (if a1 < a2 then (some (0, 0)) else (if a1 > a2 then (some (0, 0)) else (some (1, 0)))) else (some (0, 2))))))))))) = some (r1, r2) := h
  clear h
  by_cases c4 : a0 = 4
  · rw [if_pos c4] at H
    have c4b0 : (a0 == 4) = true := beq_iff_eq.mpr c4
    have c4b1 : (a0 != 4) = false := bne_eq_false_iff_eq.mpr c4
    clear c4
    simp only [Option.some.injEq, Prod.mk.injEq] at H
    obtain ⟨rfl, rfl⟩ := H
    go_enter Try.func28, Try.ntmps28
    go_wp2
    go_ret2
    exact ⟨by first | rfl | (simp; done) | (simp [*]; done), by repeat (first | exact Drawn0.refl _ | apply Drawn0.step)⟩
  · rw [if_neg c4] at H
    have c4b0 : (a0 == 4) = false := beq_eq_false_iff_ne.mpr c4
    have c4b1 : (a0 != 4) = true := bne_iff_ne.mpr c4
    by_cases c5 : a0 = 5
    · rw [if_pos c5] at H
      have c5b0 : (a0 == 5) = true := beq_iff_eq.mpr c5
      have c5b1 : (a0 != 5) = false := bne_eq_false_iff_eq.mpr c5
      clear c5
      simp only [Option.some.injEq, Prod.mk.injEq] at H
      obtain ⟨rfl, rfl⟩ := H
      go_enter Try.func28, Try.ntmps28
      go_wp2
      go_ret2
      exact ⟨by first | rfl | (simp; done) | (simp [*]; done), by repeat (first | exact Drawn0.refl _ | apply Drawn0.step)⟩
    · rw [if_neg c5] at H
      have c5b0 : (a0 == 5) = false := beq_eq_false_iff_ne.mpr c5
      have c5b1 : (a0 != 5) = true := bne_iff_ne.mpr c5
      by_cases c6 : a0 = 6
      · rw [if_pos c6] at H
        have c6b0 : (a0 == 6) = true := beq_iff_eq.mpr c6
        have c6b1 : (a0 != 6) = false := bne_eq_false_iff_eq.mpr c6
        clear c6
        simp only [Option.some.injEq, Prod.mk.injEq] at H
        obtain ⟨rfl, rfl⟩ := H
        go_enter Try.func28, Try.ntmps28
        go_wp2
        go_ret2
        exact ⟨by first | rfl | (simp; done) | (simp [*]; done), by repeat (first | exact Drawn0.refl _ | apply Drawn0.step)⟩
      · rw [if_neg c6] at H
        have c6b0 : (a0 == 6) = false := beq_eq_false_iff_ne.mpr c6
        have c6b1 : (a0 != 6) = true := bne_iff_ne.mpr c6
        by_cases c7 : a0 = 7
        · rw [if_pos c7] at H
          have c7b0 : (a0 == 7) = true := beq_iff_eq.mpr c7
          have c7b1 : (a0 != 7) = false := bne_eq_false_iff_eq.mpr c7
          clear c7
          by_cases c8 : a2 = 0
          · rw [if_pos c8] at H
            have c8b0 : (a2 == 0) = true := beq_iff_eq.mpr c8
            have c8b1 : (a2 != 0) = false := bne_eq_false_iff_eq.mpr c8
            clear c8
            simp only [Option.some.injEq, Prod.mk.injEq] at H
            obtain ⟨rfl, rfl⟩ := H
            go_enter Try.func28, Try.ntmps28
            go_wp2
            go_ret2
            exact ⟨by first | rfl | (simp; done) | (simp [*]; done), by repeat (first | exact Drawn0.refl _ | apply Drawn0.step)⟩
          · rw [if_neg c8] at H
            have c8b0 : (a2 == 0) = false := beq_eq_false_iff_ne.mpr c8
            have c8b1 : (a2 != 0) = true := bne_iff_ne.mpr c8
            by_cases c9 : a2 = (-1)
            · rw [if_pos c9] at H
              have c9b0 : (a2 == (-1)) = true := beq_iff_eq.mpr c9
              have c9b1 : (a2 != (-1)) = false := bne_eq_false_iff_eq.mpr c9
              clear c9
              simp only [Option.some.injEq, Prod.mk.injEq] at H
              obtain ⟨rfl, rfl⟩ := H
              go_enter Try.func28, Try.ntmps28
              go_wp2
              go_ret2
              exact ⟨by first | rfl | (simp; done) | (simp [*]; done), by repeat (first | exact Drawn0.refl _ | apply Drawn0.step)⟩
            · rw [if_neg c9] at H
              have c9b0 : (a2 == (-1)) = false := beq_eq_false_iff_ne.mpr c9
              have c9b1 : (a2 != (-1)) = true := bne_iff_ne.mpr c9
              simp only [Option.some.injEq, Prod.mk.injEq] at H
              obtain ⟨rfl, rfl⟩ := H
              go_enter Try.func28, Try.ntmps28
              go_wp2
              go_ret2
              exact ⟨by first | rfl | (simp; done) | (simp [*]; done), by repeat (first | exact Drawn0.refl _ | apply Drawn0.step)⟩
        · rw [if_neg c7] at H
          have c7b0 : (a0 == 7) = false := beq_eq_false_iff_ne.mpr c7
          have c7b1 : (a0 != 7) = true := bne_iff_ne.mpr c7
          by_cases c10 : a0 = 8
          · rw [if_pos c10] at H
            have c10b0 : (a0 == 8) = true := beq_iff_eq.mpr c10
            have c10b1 : (a0 != 8) = false := bne_eq_false_iff_eq.mpr c10
            clear c10
            simp only [Option.some.injEq, Prod.mk.injEq] at H
            obtain ⟨rfl, rfl⟩ := H
            go_enter Try.func28, Try.ntmps28
            go_wp2
            go_ret2
            exact ⟨by first | rfl | (simp; done) | (simp [*]; done), by repeat (first | exact Drawn0.refl _ | apply Drawn0.step)⟩
          · rw [if_neg c10] at H
            have c10b0 : (a0 == 8) = false := beq_eq_false_iff_ne.mpr c10
            have c10b1 : (a0 != 8) = true := bne_iff_ne.mpr c10
            by_cases c11 : a0 = 9
            · rw [if_pos c11] at H
              have c11b0 : (a0 == 9) = true := beq_iff_eq.mpr c11
              have c11b1 : (a0 != 9) = false := bne_eq_false_iff_eq.mpr c11
              clear c11
              simp only [Option.some.injEq, Prod.mk.injEq] at H
              obtain ⟨rfl, rfl⟩ := H
              go_enter Try.func28, Try.ntmps28
              go_wp2
              go_ret2
              exact ⟨by first | rfl | (simp; done) | (simp [*]; done), by repeat (first | exact Drawn0.refl _ | apply Drawn0.step)⟩
            · rw [if_neg c11] at H
              have c11b0 : (a0 == 9) = false := beq_eq_false_iff_ne.mpr c11
              have c11b1 : (a0 != 9) = true := bne_iff_ne.mpr c11
              by_cases c12 : a0 = 10
              · rw [if_pos c12] at H
                have c12b0 : (a0 == 10) = true := beq_iff_eq.mpr c12
                have c12b1 : (a0 != 10) = false := bne_eq_false_iff_eq.mpr c12
                clear c12
                simp only [Option.some.injEq, Prod.mk.injEq] at H
                obtain ⟨rfl, rfl⟩ := H
                go_enter Try.func28, Try.ntmps28
                go_wp2
                go_ret2
                exact ⟨by first | rfl | (simp; done) | (simp [*]; done), by repeat (first | exact Drawn0.refl _ | apply Drawn0.step)⟩
              · rw [if_neg c12] at H
                have c12b0 : (a0 == 10) = false := beq_eq_false_iff_ne.mpr c12
                have c12b1 : (a0 != 10) = true := bne_iff_ne.mpr c12
                by_cases c13 : a0 = 11
                · rw [if_pos c13] at H
                  have c13b0 : (a0 == 11) = true := beq_iff_eq.mpr c13
                  have c13b1 : (a0 != 11) = false := bne_eq_false_iff_eq.mpr c13
                  clear c13
                  by_cases c14 : a2 > a1
                  · rw [if_pos c14] at H
                    have c14b0 : decide (a1 < a2) = true := decide_eq_true c14
                    clear c14
                    simp only [Option.some.injEq, Prod.mk.injEq] at H
                    obtain ⟨rfl, rfl⟩ := H
                    go_enter Try.func28, Try.ntmps28
                    go_wp2
                    go_ret2
                    exact ⟨by first | rfl | (simp; done) | (simp [*]; done), by repeat (first | exact Drawn0.refl _ | apply Drawn0.step)⟩
                  · rw [if_neg c14] at H
                    have c14b0 : decide (a1 < a2) = false := decide_eq_false c14
                    clear c14
                    simp only [Option.some.injEq, Prod.mk.injEq] at H
                    obtain ⟨rfl, rfl⟩ := H
                    go_enter Try.func28, Try.ntmps28
                    go_wp2
                    go_ret2
                    exact ⟨by first | rfl | (simp; done) | (simp [*]; done), by repeat (first | exact Drawn0.refl _ | apply Drawn0.step)⟩
                · rw [if_neg c13] at H
                  have c13b0 : (a0 == 11) = false := beq_eq_false_iff_ne.mpr c13
                  have c13b1 : (a0 != 11) = true := bne_iff_ne.mpr c13
                  by_cases c15 : a0 = 12
                  · rw [if_pos c15] at H
                    have c15b0 : (a0 == 12) = true := beq_iff_eq.mpr c15
                    have c15b1 : (a0 != 12) = false := bne_eq_false_iff_eq.mpr c15
                    clear c15
                    by_cases c16 : a1 < a2
                    · rw [if_pos c16] at H
                      have c16b0 : decide (a1 < a2) = true := decide_eq_true c16
                      clear c16
                      simp only [Option.some.injEq, Prod.mk.injEq] at H
                      obtain ⟨rfl, rfl⟩ := H
                      go_enter Try.func28, Try.ntmps28
                      go_wp2
                      go_ret2
                      exact ⟨by first | rfl | (simp; done) | (simp [*]; done), by repeat (first | exact Drawn0.refl _ | apply Drawn0.step)⟩
                    · rw [if_neg c16] at H
                      have c16b0 : decide (a1 < a2) = false := decide_eq_false c16
                      clear c16
                      by_cases c17 : a1 > a2
                      · rw [if_pos c17] at H
                        have c17b0 : decide (a2 < a1) = true := decide_eq_true c17
                        clear c17
                        simp only [Option.some.injEq, Prod.mk.injEq] at H
                        obtain ⟨rfl, rfl⟩ := H
                        go_enter Try.func28, Try.ntmps28
                        go_wp2
                        go_ret2
                        exact ⟨by first | rfl | (simp; done) | (simp [*]; done), by repeat (first | exact Drawn0.refl _ | apply Drawn0.step)⟩
                      · rw [if_neg c17] at H
                        have c17b0 : decide (a2 < a1) = false := decide_eq_false c17
                        clear c17
                        simp only [Option.some.injEq, Prod.mk.injEq] at H
                        obtain ⟨rfl, rfl⟩ := H
                        go_enter Try.func28, Try.ntmps28
                        go_wp2
                        go_ret2
                        exact ⟨by first | rfl | (simp; done) | (simp [*]; done), by repeat (first | exact Drawn0.refl _ | apply Drawn0.step)⟩
                  · rw [if_neg c15] at H
                    have c15b0 : (a0 == 12) = false := beq_eq_false_iff_ne.mpr c15
                    have c15b1 : (a0 != 12) = true := bne_iff_ne.mpr c15
                    simp only [Option.some.injEq, Prod.mk.injEq] at H
                    obtain ⟨rfl, rfl⟩ := H
                    go_enter Try.func28, Try.ntmps28
                    go_wp2
                    go_ret2
                    exact ⟨by first | rfl | (simp; done) | (simp [*]; done), by repeat (first | exact Drawn0.refl _ | apply Drawn0.step)⟩

-- function 29 (num_Has): in a text of its own

/-! ### joineryref01_Has: function 30 -/
def joineryref01_Has.f (a0 : Int) : Option (Bool) := if a0 ≥ 4 then (some (decide (a0 ≤ 12))) else (some false)
set_option maxHeartbeats 8000000 in
set_option maxRecDepth 100000 in
theorem joineryref01_Has.calls (a0 : Int) (r : Bool) (w : World) (h : joineryref01_Has.f a0 = some r) :
    Calls Try.prog 30 #[.int .i64 a0] w fun e w' => e = .returned (.bool r) ∧ Drawn0 w w' := by
  have H : (if a0 ≥ 4 then (some (decide (a0 ≤ 12))) else (some false)) = some r := h
  clear h
  by_cases c2 : a0 ≥ 4
  · rw [if_pos c2] at H
    have c2b0 : decide (4 ≤ a0) = true := decide_eq_true c2
    clear c2
    obtain rfl := Option.some.inj H
    go_enter Try.func30, Try.ntmps30
    go_wp2
    go_ret
    exact ⟨by first | rfl | (simp; done) | (simp [*]; done), by repeat (first | exact Drawn0.refl _ | apply Drawn0.step)⟩
  · rw [if_neg c2] at H
    have c2b0 : decide (4 ≤ a0) = false := decide_eq_false c2
    clear c2
    obtain rfl := Option.some.inj H
    go_enter Try.func30, Try.ntmps30
    go_wp2
    go_ret
    exact ⟨by first | rfl | (simp; done) | (simp [*]; done), by repeat (first | exact Drawn0.refl _ | apply Drawn0.step)⟩

-- function 32 (num_Parse): in a text of its own

end Go.Proofs.Ytolacdlobopoiaa.Num
