/- env: a table of kinds and numbers -/
import Derived.Test.YtolacdlobopoiaaNum0
import Derived.Test.YtolacdlobopoiaaEnvG
namespace Go.Proofs.Ytolacdlobopoiaa.Num
open Go.RowKit Go.Proofs.YtolacdlobopoiaaW.PrintWords Go.Proofs.YtolacdlobopoiaaW.PrintLast Go.Proofs.YtolacdlobopoiaaW.PrintMore
attribute [local go_sem] max2_int min2_int max_two min_two max_three min_three max_four min_four   -- for this text's walks alone
set_option linter.unusedVariables false
set_option linter.unusedSimpArgs false

def ofAt (ks ns : List Int) (i : Nat) : Sr := if ks.getD i 0 = 0 then .was (ns.getD i 0) else if ks.getD i 0 = 1 then .is (ns.getD i 0) else .no
def ofTo (ks ns : List Int) (i : Nat) : List Sr := (List.range 24).map fun j : Nat => if j < i ∧ j < ks.length ∧ j < ns.length then ofAt ks ns j else .was (j : Int)
def ofT (ks ns : List Int) : List Sr := ofTo ks ns 24
theorem ofTo_len (ks ns : List Int) (i : Nat) : (ofTo ks ns i).length = 24 := by simp [ofTo]
theorem ofTo_zero (ks ns : List Int) : ofTo ks ns 0 = first := by simp [ofTo, first]
theorem ofTo_set (ks ns : List Int) (i : Nat) (hi : i < 24) (h1 : i < ks.length) (h2 : i < ns.length) : (ofTo ks ns i).set i (ofAt ks ns i) = ofTo ks ns (i + 1) := by
  apply List.ext_getElem
  · simp [ofTo]
  · intro j h3 h4
    rw [List.getElem_set]
    simp only [ofTo, List.getElem_map, List.getElem_range]
    by_cases e : i = j
    · subst e
      rw [if_pos rfl, if_pos ⟨by omega, h1, h2⟩]
    · rw [if_neg e]
      by_cases c : j < i ∧ j < ks.length ∧ j < ns.length
      · rw [if_pos c, if_pos ⟨by omega, c.2⟩]
      · rw [if_neg c, if_neg (fun h => c ⟨by omega, h.2⟩)]
theorem ofTo_done (ks ns : List Int) (i : Nat) (h : i = 24 ∨ ks.length ≤ i ∨ ns.length ≤ i) (hi : i ≤ 24) : ofTo ks ns i = ofT ks ns := by
  unfold ofT ofTo
  apply List.map_congr_left
  intro j hj
  have hj := List.mem_range.1 hj
  by_cases c : j < i ∧ j < ks.length ∧ j < ns.length
  · rw [if_pos c, if_pos ⟨by omega, c.2⟩]
  · rw [if_neg c, if_neg (fun h' => c ⟨by omega, h'.2⟩)]
theorem cell_of {k : IntKind} {w : World} {A : Option Addr} {n : Nat} {l : List Int} (h : Kd.C (Kd.int k) w A n l) (i : Nat) (hi : i < n) : ∃ ad, A = some ad ∧ w.cell? (ad.add i) = some (.int k (l.getD i 0)) := by
  obtain ⟨ad, c, ha, hl, hk, hc⟩ := Kd.C_get h 0 (i : Int) (by omega) (by omega)
  refine ⟨ad, ha, ?_⟩
  have hk' : c = [.int k (l.getD (i : Int).toNat 0)] := hk
  have := hc 0 _ (by rw [hk']; rfl)
  have hz : (Kd.int k).sz = 1 := rfl
  rw [hz] at this
  simpa using this
set_option maxHeartbeats 1000000 in
set_option maxRecDepth 100000 in
theorem env_Of (A0 : Option Addr) (c0 : Nat) (l0 : List Int) (A1 : Option Addr) (c1 : Nat) (l1 : List Int) (w : World) (hr0 : Kd.C (Kd.int .u8) w A0 l0.length l0) (hc0 : l0.length ≤ c0) (hr1 : Kd.C (Kd.int .i64) w A1 l1.length l1) (hc1 : l1.length ≤ c1) :
    Calls Try.prog 41 #[.slice A0 l0.length c0, .slice A1 l1.length c1] w fun e w' => e = .returned (.agg (tcells (ofT l0 l1))) ∧ Below w.heap.size w w' := by
  have HR0 := Aside0.mk hr0
  have HR1 := Aside0.mk hr1
  clear hr0 hr1
  obtain ⟨n0, hn0⟩ : ∃ n0, n0 = l0.length := ⟨_, rfl⟩
  obtain ⟨n1, hn1⟩ : ∃ n1, n1 = l1.length := ⟨_, rfl⟩
  rw [← hn0, ← hn1]
  have N0 := Aside0.mk hn0
  have N1 := Aside0.mk hn1
  clear hn0 hn1 hc0 hc1
  go_enter Try.func41, Try.ntmps41
  go_wp2_with (first
      | (go_at_call 40; refine (env_New _).mono ?_; rintro e w1 ⟨rfl, hb⟩; have HT0 := Aside0.mk (show IsTab w1 w.heap.size noes from IsTab.below (T := noes) (heap_alloc_last w _) hb); have HB1 := Aside0.mk (below_step (below_alloc (Below.refl _ _) _) hb); clear hb)
      | ((with_reducible refine gate_store (t := 57) (p := 5) rfl ?_); refine wpList_store_row rfl 57 _ _ rfl w1.heap.size (tcells first) rfl rfl 57 (tcells noes) (heap_alloc_last w1 _) info57 rfl (tcells_one first) ?_; have K1 := Aside0.mk (show IsTab _ w1.heap.size first from IsTab.laid (T := noes) (heap_alloc_last w1 _)); have K0 := Aside0.mk (IsTab.row (IsTab.below HT0.out (below_alloc (Below.refl _ _) (.cells (tcells noes) 57 (0, 0)))) (g' := w1.heap.size) (by have := blk_lt HT0.out; omega) (tcells first)); have KL := Aside0.mk (below_setRow (below_alloc HB1.out (.cells (tcells noes) 57 (0, 0))) HB1.out.size (tcells first))))
  go_loopw [6] (fun c wr => ∃ i : Nat, c = .int .i64 i ∧ Aside0 (i ≤ 24 ∧ Below w.heap.size w wr ∧ IsTab wr w.heap.size noes ∧ IsTab wr w1.heap.size (ofTo l0 l1 i))) (fun c _ => 24 - (intOf c).toNat)
  case atStart => exact ⟨0, rfl, ⟨⟨by omega, KL.out, K0.out, by rw [ofTo_zero]; exact K1.out⟩⟩⟩
  case round =>
    obtain ⟨i, rfl, HS⟩ := hrel
    obtain ⟨h24, hb, h0, ht⟩ := HS.out
    by_cases hi : i < 24
    · have hi' : (i : Int) < 24 := by omega
      by_cases h1 : i < n0
      · have h1' : (i : Int) < (n0 : Int) := by omega
        by_cases h2 : i < n1
        · have h2' : (i : Int) < (n1 : Int) := by omega
          obtain ⟨ad0, rfl, hc0⟩ := cell_of (Kd.C_below HR0.out hb) i (by rw [← N0.out]; exact h1)
          obtain ⟨ad1, rfl, hc1⟩ := cell_of (Kd.C_below HR1.out hb) i (by rw [← N1.out]; exact h2)
          have hset := ofTo_set l0 l1 i hi (by rw [← N0.out]; exact h1) (by rw [← N1.out]; exact h2)
          unfold ofAt at hset
          obtain ⟨x, hx⟩ : ∃ x, x = l0.getD i 0 := ⟨_, rfl⟩
          obtain ⟨y, hy⟩ : ∃ y, y = l1.getD i 0 := ⟨_, rfl⟩
          rw [← hx] at hc0 hset
          rw [← hy] at hc1 hset
          clear hx hy
          have hl := ofTo_len l0 l1 i
          have st := ht.cell i (by rw [hl]; exact hi)
          have st2 := ht.free i
          obtain ⟨v, hv⟩ : ∃ v, v = ((ofTo l0 l1 i)[i]'(by rw [hl]; exact hi)).v := ⟨_, rfl⟩
          rw [← hv] at st
          clear hv
          have hB := blk_lt h0
          have hne : w.heap.size ≠ w1.heap.size := by have := blk_lt K0.out; have := HB1.out.size; have := blk_lt HT0.out; omega
          have HNe := Aside0.mk hne
          have HSet := Aside0.mk hset
          have HB := Aside0.mk hb
          have H0 := Aside0.mk h0
          have HT := Aside0.mk ht
          clear hb h0 ht HS hset hl hB hne
          cases e0 : (x == 0) with
          | true =>
            have E0 := Aside0.mk e0
            go_wp2
            go_roundw
            case rel => exact ⟨i + 1, by go_num, ⟨⟨by omega, HB.out.setCell HB1.out.size _, H0.out.far (by exact HNe.out) _, by
              have := HSet.out
              rw [if_pos (by simpa using E0.out)] at this
              rw [← this]
              exact HT.out.set i (.was y)⟩⟩⟩
            case measure => simp [intOf]; omega
          | false =>
            have E0 := Aside0.mk e0
            cases e1 : (x == 1) with
            | true =>
              have E1 := Aside0.mk e1
              go_wp2
              go_roundw
              case rel => exact ⟨i + 1, by go_num, ⟨⟨by omega, HB.out.setCell HB1.out.size _, H0.out.far (by exact HNe.out) _, by
                have := HSet.out
                rw [if_neg (by simpa using E0.out), if_pos (by simpa using E1.out)] at this
                rw [← this]
                exact HT.out.set i (.is y)⟩⟩⟩
              case measure => simp [intOf]; omega
            | false =>
              have E1 := Aside0.mk e1
              go_wp2
              go_roundw
              case rel => exact ⟨i + 1, by go_num, ⟨⟨by omega, HB.out.setCell HB1.out.size _, H0.out.far (by exact HNe.out) _, by
                have := HSet.out
                rw [if_neg (by simpa using E0.out), if_neg (by simpa using E1.out)] at this
                rw [← this]
                exact HT.out.set i .no⟩⟩⟩
              case measure => simp [intOf]; omega
        · have h2' : ¬ ((i : Int) < (n1 : Int)) := by omega
          have HO := Aside0.mk (ofTo_done l0 l1 i (by right; right; rw [← N1.out]; omega) h24)
          have HB := Aside0.mk hb
          have H0 := Aside0.mk h0
          have HT := Aside0.mk ht
          clear hb h0 ht HS
          go_wp2_with (first
            | ((with_reducible refine gate_dst (N := 52) rfl ?_); refine wpList_load_row rfl 57 _ rfl w1.heap.size rfl 57 (tcells (ofT l0 l1)) (0, 0) _ (by rw [← HO.out]; exact HT.out) Try.underlying57 rfl (tab_size (ofTo_len _ _ _)) ?_)
            | ((with_reducible refine gate_store (t := 57) (p := 4) rfl ?_); refine wpList_store_row rfl 57 _ _ rfl w.heap.size (tcells (ofT l0 l1)) rfl rfl 57 (tcells noes) H0.out (tab_size (ofTo_len _ _ _)) (by rw [tcells_size, tcells_size]; rfl) (tcells_one _) ?_))
          exact bodyPost_ret (v := .agg (tcells (ofT l0 l1))) (results_cell_row rfl _ _ w.heap.size 57 (tcells (ofT l0 l1)) (0, 0) _ rfl H0.out.laid Try.underlying57 rfl (tab_size (ofTo_len _ _ _))) rfl ⟨rfl, below_setRow HB.out (Nat.le_refl _) _⟩
      · have h1' : ¬ ((i : Int) < (n0 : Int)) := by omega
        have HO := Aside0.mk (ofTo_done l0 l1 i (by right; left; rw [← N0.out]; omega) h24)
        have HB := Aside0.mk hb
        have H0 := Aside0.mk h0
        have HT := Aside0.mk ht
        clear hb h0 ht HS
        go_wp2_with (first
          | ((with_reducible refine gate_dst (N := 52) rfl ?_); refine wpList_load_row rfl 57 _ rfl w1.heap.size rfl 57 (tcells (ofT l0 l1)) (0, 0) _ (by rw [← HO.out]; exact HT.out) Try.underlying57 rfl (tab_size (ofTo_len _ _ _)) ?_)
          | ((with_reducible refine gate_store (t := 57) (p := 4) rfl ?_); refine wpList_store_row rfl 57 _ _ rfl w.heap.size (tcells (ofT l0 l1)) rfl rfl 57 (tcells noes) H0.out (tab_size (ofTo_len _ _ _)) (by rw [tcells_size, tcells_size]; rfl) (tcells_one _) ?_))
        exact bodyPost_ret (v := .agg (tcells (ofT l0 l1))) (results_cell_row rfl _ _ w.heap.size 57 (tcells (ofT l0 l1)) (0, 0) _ rfl H0.out.laid Try.underlying57 rfl (tab_size (ofTo_len _ _ _))) rfl ⟨rfl, below_setRow HB.out (Nat.le_refl _) _⟩
    · have hi' : ¬ ((i : Int) < 24) := by omega
      have HO := Aside0.mk (ofTo_done l0 l1 i (by left; omega) h24)
      have HB := Aside0.mk hb
      have H0 := Aside0.mk h0
      have HT := Aside0.mk ht
      clear hb h0 ht HS
      go_wp2_with (first
        | ((with_reducible refine gate_dst (N := 52) rfl ?_); refine wpList_load_row rfl 57 _ rfl w1.heap.size rfl 57 (tcells (ofT l0 l1)) (0, 0) _ (by rw [← HO.out]; exact HT.out) Try.underlying57 rfl (tab_size (ofTo_len _ _ _)) ?_)
        | ((with_reducible refine gate_store (t := 57) (p := 4) rfl ?_); refine wpList_store_row rfl 57 _ _ rfl w.heap.size (tcells (ofT l0 l1)) rfl rfl 57 (tcells noes) H0.out (tab_size (ofTo_len _ _ _)) (by rw [tcells_size, tcells_size]; rfl) (tcells_one _) ?_))
      exact bodyPost_ret (v := .agg (tcells (ofT l0 l1))) (results_cell_row rfl _ _ w.heap.size 57 (tcells (ofT l0 l1)) (0, 0) _ rfl H0.out.laid Try.underlying57 rfl (tab_size (ofTo_len _ _ _))) rfl ⟨rfl, below_setRow HB.out (Nat.le_refl _) _⟩

end Go.Proofs.Ytolacdlobopoiaa.Num
