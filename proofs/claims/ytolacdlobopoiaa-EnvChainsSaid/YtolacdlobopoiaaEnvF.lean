/- env: the document's examples hold -/
import Derived.Test.YtolacdlobopoiaaNum0
import Derived.Test.YtolacdlobopoiaaEnvE
namespace Go.Proofs.Ytolacdlobopoiaa.Num
open Go.RowKit Go.Proofs.YtolacdlobopoiaaW.PrintWords Go.Proofs.YtolacdlobopoiaaW.PrintLast Go.Proofs.YtolacdlobopoiaaW.PrintMore
attribute [local go_sem] max2_int min2_int max_two min_two max_three min_three max_four min_four   -- for this text's walks alone
set_option linter.unusedVariables false
set_option linter.unusedSimpArgs false

def kn1 : List Sr := first.set 8 (.was 1)
def kn2 : List Sr := kn1.set 1 (.is 5)
def kn3 : List Sr := (kn2.set 8 (.was 2)).set 2 (.was 1)
theorem kn1_is : afterT first ⟨2, 8, 1, 0, 0, 0⟩ = kn1 := by decide +kernel
theorem kn2_is : afterT kn1 ⟨1, 1, 0, 0, 5, 0⟩ = kn2 := by decide +kernel
theorem kn3_is : afterT kn2 ⟨3, 8, 2, 0, 0, 0⟩ = kn3 := by decide +kernel
theorem kn_after1 (w : World) : Calls Try.prog 42 #[.agg (tcells first), .agg #[.int .i64 2, .int .i64 8, .int .i64 1, .int .i64 0, .int .i64 0, .int .i64 0]] w fun e w' => e = .returned (.agg (tcells kn1)) ∧ Below w.heap.size w w' := by
  rw [← kn1_is]; exact env_After first first_len ⟨2, 8, 1, 0, 0, 0⟩ w
theorem kn_after2 (w : World) : Calls Try.prog 42 #[.agg (tcells kn1), .agg #[.int .i64 1, .int .i64 1, .int .i64 0, .int .i64 0, .int .i64 5, .int .i64 0]] w fun e w' => e = .returned (.agg (tcells kn2)) ∧ Below w.heap.size w w' := by
  rw [← kn2_is]; exact env_After kn1 (by decide) ⟨1, 1, 0, 0, 5, 0⟩ w
theorem kn_after3 (w : World) : Calls Try.prog 42 #[.agg (tcells kn2), .agg #[.int .i64 3, .int .i64 8, .int .i64 2, .int .i64 0, .int .i64 0, .int .i64 0]] w fun e w' => e = .returned (.agg (tcells kn3)) ∧ Below w.heap.size w w' := by
  rw [← kn3_is]; exact env_After kn2 (by decide) ⟨3, 8, 2, 0, 0, 0⟩ w
theorem kn_good (w : World) : Calls Try.prog 51 #[.agg (tcells kn3)] w fun e w' => e = .returned (.bool true) ∧ Below w.heap.size w w' := by
  have h := env_Good kn3 (by decide) w
  have : goodB kn3 = true := by decide +kernel
  rw [this] at h
  exact h
theorem kn_cells {w : World} {g : Nat} (h : IsTab w g kn3) : w.cell? ⟨g, 8, none⟩ = some (.iface 47 (.agg #[.int .i64 2])) ∧ w.cell? ⟨g, 1, none⟩ = some (.iface 49 (.agg #[.int .i64 5])) ∧ w.cell? ⟨g, 2, none⟩ = some (.iface 47 (.agg #[.int .i64 1])) :=
  ⟨h.cell 8 (by decide), h.cell 1 (by decide), h.cell 2 (by decide)⟩
theorem kn_text (w : World) : Calls Try.prog 36 #[.agg #[.int .i64 1]] w fun e w' => e = .returned (.string ⟨#[114, 49]⟩) ∧ Below w.heap.size w w' :=
  env_WasText 1 ⟨#[114, 49]⟩ 0 (Pure.loc_text_in 1 (by decide) (by decide)) w
set_option maxHeartbeats 1000000 in
set_option maxRecDepth 100000 in
theorem knows_of (F K1 K2 K3 : List Sr) (lF : F.length = 24) (l1 : K1.length = 24) (l2 : K2.length = 24) (l3 : K3.length = 24)
    (hN : ∀ w, Calls Try.prog 40 #[] w fun e w' => e = .returned (.agg (tcells F)) ∧ Below w.heap.size w w')
    (h1 : ∀ w, Calls Try.prog 42 #[.agg (tcells F), .agg #[.int .i64 2, .int .i64 8, .int .i64 1, .int .i64 0, .int .i64 0, .int .i64 0]] w fun e w' => e = .returned (.agg (tcells K1)) ∧ Below w.heap.size w w')
    (h2 : ∀ w, Calls Try.prog 42 #[.agg (tcells K1), .agg #[.int .i64 1, .int .i64 1, .int .i64 0, .int .i64 0, .int .i64 5, .int .i64 0]] w fun e w' => e = .returned (.agg (tcells K2)) ∧ Below w.heap.size w w')
    (h3 : ∀ w, Calls Try.prog 42 #[.agg (tcells K2), .agg #[.int .i64 3, .int .i64 8, .int .i64 2, .int .i64 0, .int .i64 0, .int .i64 0]] w fun e w' => e = .returned (.agg (tcells K3)) ∧ Below w.heap.size w w')
    (hG : ∀ w, Calls Try.prog 51 #[.agg (tcells K3)] w fun e w' => e = .returned (.bool true) ∧ Below w.heap.size w w')
    (hc : ∀ w g, IsTab w g K3 → w.cell? ⟨g, 8, none⟩ = some (.iface 47 (.agg #[.int .i64 2])) ∧ w.cell? ⟨g, 1, none⟩ = some (.iface 49 (.agg #[.int .i64 5])) ∧ w.cell? ⟨g, 2, none⟩ = some (.iface 47 (.agg #[.int .i64 1])))
    (w : World) : Calls Try.prog 38 #[] w fun e w' => e = .returned (.bool true) ∧ Below w.heap.size w w' := by
  have q1 : ∀ w, (binOp .eql 55 (.iface 47 (.agg #[.int .i64 2])) (.iface 47 (.agg #[.int .i64 2]))).run Try.prog w = .ok (.bool true) w := fun w => eq_sr (.was 2) (.was 2) w
  have q2 : ∀ w, (binOp .eql 55 (.iface 49 (.agg #[.int .i64 5])) (.iface 49 (.agg #[.int .i64 5]))).run Try.prog w = .ok (.bool true) w := fun w => eq_sr (.is 5) (.is 5) w
  have q3 : ∀ w, (binOp .eql 55 (.iface 47 (.agg #[.int .i64 1])) (.iface 47 (.agg #[.int .i64 1]))).run Try.prog w = .ok (.bool true) w := fun w => eq_sr (.was 1) (.was 1) w
  have HN := Aside0.mk hN
  have H1 := Aside0.mk h1
  have H2 := Aside0.mk h2
  have H3 := Aside0.mk h3
  have HG := Aside0.mk hG
  have HC := Aside0.mk hc
  have LF := Aside0.mk (tab_size lF)
  have L1 := Aside0.mk (tab_size l1)
  have L2 := Aside0.mk (tab_size l2)
  have L3 := Aside0.mk (tab_size l3)
  have SF : Aside0 ((tcells noes).size = (tcells F).size) := ⟨by rw [tcells_size, tcells_size, lF]; rfl⟩
  have S1 : Aside0 ((tcells F).size = (tcells K1).size) := ⟨by rw [tcells_size, tcells_size, lF, l1]⟩
  have S2 : Aside0 ((tcells K1).size = (tcells K2).size) := ⟨by rw [tcells_size, tcells_size, l2, l1]⟩
  have S3 : Aside0 ((tcells K2).size = (tcells K3).size) := ⟨by rw [tcells_size, tcells_size, l2, l3]⟩
  clear hN h1 h2 h3 hG hc lF l1 l2 l3
  have m1 : ∀ w, (method 214 47 (.agg #[.int .i64 1]) "Text").run Try.prog w = .ok (36, .agg #[.int .i64 1]) w := fun _ => by kernel_rfl
  go_enter Try.func38, Try.ntmps38
  go_wp2_with (first
      | (go_at_call 40; refine (HN.out _).mono ?_; rintro e w1 ⟨rfl, hb⟩; have HB1 := Aside0.mk hb; clear hb)
      | ((with_reducible refine gate_store (t := 57) (p := 1) rfl ?_); first
          | (refine wpList_store_row rfl 57 _ _ rfl w1.heap.size (tcells F) rfl rfl 57 (tcells noes) (heap_alloc_last w1 _) LF.out SF.out (tcells_one F) ?_; have KT1 := Aside0.mk (show IsTab _ w1.heap.size F from IsTab.laid (T := noes) (heap_alloc_last w1 _)); have B1 := Aside0.mk (below_setRow (below_alloc HB1.out (.cells (tcells noes) 57 (0, 0))) HB1.out.size (tcells F)))
          | (refine wpList_store_row rfl 57 _ _ rfl w1.heap.size (tcells K1) rfl rfl 57 (tcells F) KA1.out L1.out S1.out (tcells_one K1) ?_; have KT2 := Aside0.mk (show IsTab _ w1.heap.size K1 from KA1.out.laid); have B2 := Aside0.mk (below_setRow BA1.out HB1.out.size (tcells K1)))
          | (refine wpList_store_row rfl 57 _ _ rfl w1.heap.size (tcells K2) rfl rfl 57 (tcells K1) KA2.out L2.out S2.out (tcells_one K2) ?_; have KT3 := Aside0.mk (show IsTab _ w1.heap.size K2 from KA2.out.laid); have B3 := Aside0.mk (below_setRow BA2.out HB1.out.size (tcells K2)))
          | (refine wpList_store_row rfl 57 _ _ rfl w1.heap.size (tcells K3) rfl rfl 57 (tcells K2) KA3.out L3.out S3.out (tcells_one K3) ?_; have KT4 := Aside0.mk (show IsTab _ w1.heap.size K3 from KA3.out.laid); have B4 := Aside0.mk (below_setRow BA3.out HB1.out.size (tcells K3))))
      | ((with_reducible refine gate_dst (N := 3) rfl ?_); refine wpList_load_row rfl 57 _ rfl w1.heap.size rfl 57 (tcells F) (0, 0) _ KT1.out Try.underlying57 rfl LF.out ?_)
      | ((with_reducible refine gate_dst (N := 6) rfl ?_); refine wpList_load_row rfl 57 _ rfl w1.heap.size rfl 57 (tcells K1) (0, 0) _ KT2.out Try.underlying57 rfl L1.out ?_)
      | ((with_reducible refine gate_dst (N := 9) rfl ?_); refine wpList_load_row rfl 57 _ rfl w1.heap.size rfl 57 (tcells K2) (0, 0) _ KT3.out Try.underlying57 rfl L2.out ?_)
      | ((with_reducible refine gate_dst (N := 12) rfl ?_); refine wpList_load_row rfl 57 _ rfl w1.heap.size rfl 57 (tcells K3) (0, 0) _ KT4.out Try.underlying57 rfl L3.out ?_)
      | (go_at_call 42; first
          | ((with_reducible refine (H1.out _).mono ?_); rintro e w2 ⟨rfl, hb⟩; have KA1 := Aside0.mk (KT1.out.below hb); have BA1 := Aside0.mk (below_step B1.out hb); clear hb)
          | ((with_reducible refine (H2.out _).mono ?_); rintro e w3 ⟨rfl, hb⟩; have KA2 := Aside0.mk (KT2.out.below hb); have BA2 := Aside0.mk (below_step B2.out hb); clear hb)
          | ((with_reducible refine (H3.out _).mono ?_); rintro e w4 ⟨rfl, hb⟩; have KA3 := Aside0.mk (KT3.out.below hb); have BA3 := Aside0.mk (below_step B3.out hb); clear hb))
      | (go_at_call 51; refine (HG.out _).mono ?_; rintro e w5 ⟨rfl, hb⟩; have KT5 := Aside0.mk (KT4.out.below hb); have B5 := Aside0.mk (below_step B4.out hb); clear hb; obtain ⟨c8, c1, c2⟩ := HC.out _ _ KT5.out)
      | (go_at_call 36; refine (kn_text _).mono ?_; rintro e w6 ⟨rfl, hb⟩; have B6 := Aside0.mk (below_step B5.out hb); clear hb))
  go_ret
  exact ⟨rfl, B6.out⟩

theorem env_knows (w : World) : Calls Try.prog 38 #[] w fun e w' => e = .returned (.bool true) ∧ Below w.heap.size w w' :=
  knows_of first kn1 kn2 kn3 first_len (by decide) (by decide) (by decide) env_New kn_after1 kn_after2 kn_after3 kn_good (fun _ _ h => kn_cells h) w

end Go.Proofs.Ytolacdlobopoiaa.Num
