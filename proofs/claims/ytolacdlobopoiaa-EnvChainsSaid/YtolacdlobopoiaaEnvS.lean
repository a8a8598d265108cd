/- env: EnvS -/
import Derived.Test.YtolacdlobopoiaaNum0
import Derived.Test.YtolacdlobopoiaaEnvR
namespace Go.Proofs.Ytolacdlobopoiaa.Num
open Go.RowKit Go.Proofs.YtolacdlobopoiaaW.PrintWords Go.Proofs.YtolacdlobopoiaaW.PrintLast Go.Proofs.YtolacdlobopoiaaW.PrintMore
attribute [local go_sem] max2_int min2_int max_two min_two max_three min_three max_four min_four   -- for this text's walks alone
set_option linter.unusedVariables false
set_option linter.unusedSimpArgs false

/-! ### Rows of 24 words -/
def wcs (L : List S68) : List Value := L.flatMap fun x => [.bool x.f0, .int .i64 x.f1]
def wcells (L : List S68) : Array Value := (wcs L).toArray
theorem wcs_len : ∀ L : List S68, (wcs L).length = 2 * L.length
  | [] => rfl
  | x :: L => by
    have := wcs_len L
    unfold wcs at this ⊢
    simp only [List.flatMap_cons, List.length_append, List.length_cons, List.length_nil, this]
    omega
theorem wcells_size (L : List S68) : (wcells L).size = 2 * L.length := by simp [wcells, wcs_len]
theorem wcs_at0 : ∀ (L : List S68) (i : Nat) (h : i < L.length), (wcs L)[i * 2]? = some (.bool (L[i]).f0)
  | x :: L, 0, _ => by simp [wcs]
  | x :: L, i + 1, h => by
    have := wcs_at0 L i (by simpa using h)
    rw [show (i + 1) * 2 = i * 2 + 1 + 1 by omega]
    simpa [wcs] using this
theorem wcs_at1 : ∀ (L : List S68) (i : Nat) (h : i < L.length), (wcs L)[i * 2 + 1]? = some (.int .i64 (L[i]).f1)
  | x :: L, 0, _ => by simp [wcs]
  | x :: L, i + 1, h => by
    have := wcs_at1 L i (by simpa using h)
    rw [show (i + 1) * 2 + 1 = i * 2 + 1 + 1 + 1 by omega]
    simpa [wcs] using this
theorem wcs_set : ∀ (L : List S68) (i : Nat) (x : S68), i < L.length → ((wcs L).set (i * 2) (.bool x.f0)).set (i * 2 + 1) (.int .i64 x.f1) = wcs (L.set i x)
  | y :: L, 0, x, _ => by simp [wcs]
  | y :: L, i + 1, x, h => by
    have := wcs_set L i x (by simpa using h)
    rw [show (i + 1) * 2 = i * 2 + 1 + 1 by omega]
    simpa [wcs] using this
theorem wcells_set (L : List S68) (i : Nat) (x : S68) (h : i < L.length) : ((wcells L).setIfInBounds (i * 2) (.bool x.f0)).setIfInBounds (i * 2 + 1) (.int .i64 x.f1) = wcells (L.set i x) := by
  simp [wcells, wcs_set L i x h]
theorem wcells_one (L : List S68) : (wcells L).all (·.oneCell') = true := by
  rw [Array.all_eq_true_iff_forall_mem]
  intro v hv
  simp only [wcells, wcs, List.mem_toArray, List.mem_flatMap] at hv
  obtain ⟨x, _, hv⟩ := hv
  simp at hv
  rcases hv with rfl | rfl <;> rfl
def w0s : List S68 := List.replicate 24 ⟨false, 0⟩
theorem w0s_len : w0s.length = 24 := by simp [w0s]
theorem info69 : (Try.prog.info? 69).map (·.size) = some 48 := by kernel_rfl
theorem wt_size {L : List S68} (h : L.length = 24) : (Try.prog.info? 69).map (·.size) = some (wcells L).size := by rw [wcells_size, h]; exact info69
def IsW (w : World) (g : Nat) (L : List S68) : Prop := w.heap[g]? = some (.cells (wcells L) 69 (0, 0))
theorem IsW.cell0 {w : World} {g : Nat} {L : List S68} (h : IsW w g L) (i : Nat) (hi : i < L.length) : w.cell? ⟨g, i * 2, none⟩ = some (.bool (L[i]).f0) := by
  rw [blk_cell h]; simpa [wcells] using wcs_at0 L i hi
theorem IsW.cell1 {w : World} {g : Nat} {L : List S68} (h : IsW w g L) (i : Nat) (hi : i < L.length) : w.cell? ⟨g, i * 2 + 1, none⟩ = some (.int .i64 (L[i]).f1) := by
  rw [blk_cell h]; simpa [wcells] using wcs_at1 L i hi
theorem IsW.free {w : World} {g : Nat} {L : List S68} (h : IsW w g L) (i : Nat) : w.frozen? ⟨g, i, none⟩ = false := blk_frozen h i
theorem IsW.below {w w' : World} {g : Nat} {L : List S68} (h : IsW w g L) (hb : Below w.heap.size w w') : IsW w' g L := (hb.block g (blk_lt h)).trans h
theorem IsW.far {w : World} {g : Nat} {L : List S68} (h : IsW w g L) {p : Addr} (hp : g ≠ p.block) (u : Value) : IsW (w.setCell p u) g L := blk_far h hp u
theorem IsW.row {w : World} {g g' : Nat} {L : List S68} (h : IsW w g L) (hne : g ≠ g') (cs : Array Value) : IsW (w.setRow g' cs) g L := (setRow_other w g' g cs hne).trans h
theorem IsW.laid {w : World} {g : Nat} {L M : List S68} (h : IsW w g L) : IsW (w.setRow g (wcells M)) g M := setRow_heap w g _ _ 69 _ h
theorem IsW.set {w : World} {g : Nat} {L : List S68} (h : IsW w g L) (i : Nat) (x : S68) (hi : i < L.length) : IsW ((w.setCell ⟨g, i * 2, none⟩ (.bool x.f0)).setCell ⟨g, i * 2 + 1, none⟩ (.int .i64 x.f1)) g (L.set i x) := by
  have h1 := blk_set h (i * 2) (.bool x.f0)
  have h2 := blk_set h1 (i * 2 + 1) (.int .i64 x.f1)
  rw [wcells_set L i x hi] at h2
  exact h2
theorem IsTab.farW {w : World} {g : Nat} {T : List Sr} (h : IsTab w g T) (cs : Array Value) {g' : Nat} (hne : g ≠ g') : IsTab (w.setRow g' cs) g T := h.row hne cs
def woTo (bs : List Bool) (ns : List Int) (i : Nat) : List S68 := (List.range 24).map fun j : Nat => if j < i ∧ j < bs.length ∧ j < ns.length ∧ bs.getD j false = true then ⟨true, ns.getD j 0⟩ else ⟨false, 0⟩
def woT (bs : List Bool) (ns : List Int) : List S68 := woTo bs ns 24
theorem woTo_len (bs : List Bool) (ns : List Int) (i : Nat) : (woTo bs ns i).length = 24 := by simp [woTo]
theorem woTo_zero (bs : List Bool) (ns : List Int) : woTo bs ns 0 = w0s := by
  have h : (List.range 24).map (fun _ : Nat => (⟨false, 0⟩ : S68)) = w0s := by rfl
  rw [← h]
  unfold woTo
  apply List.map_congr_left
  intro j _
  rw [if_neg (fun c => absurd c.1 (Nat.not_lt_zero j))]
theorem woTo_set (bs : List Bool) (ns : List Int) (i : Nat) (hi : i < 24) (h1 : i < bs.length) (h2 : i < ns.length) (h3 : bs.getD i false = true) : (woTo bs ns i).set i ⟨true, ns.getD i 0⟩ = woTo bs ns (i + 1) := by
  apply List.ext_getElem
  · simp [woTo]
  · intro j h4 h5
    rw [List.getElem_set]
    simp only [woTo, List.getElem_map, List.getElem_range]
    by_cases e : i = j
    · subst e
      rw [if_pos rfl, if_pos ⟨by omega, h1, h2, h3⟩]
    · rw [if_neg e]
      by_cases c : j < i ∧ j < bs.length ∧ j < ns.length ∧ bs.getD j false = true
      · rw [if_pos c, if_pos ⟨by omega, c.2⟩]
      · rw [if_neg c, if_neg (fun h => c ⟨by omega, h.2⟩)]
theorem woTo_skip (bs : List Bool) (ns : List Int) (i : Nat) (h3 : bs.getD i false = false) : woTo bs ns (i + 1) = woTo bs ns i := by
  unfold woTo
  apply List.map_congr_left
  intro j _
  by_cases c : j < i ∧ j < bs.length ∧ j < ns.length ∧ bs.getD j false = true
  · rw [if_pos c, if_pos ⟨by omega, c.2⟩]
  · rw [if_neg c, if_neg]
    intro h
    by_cases e : j = i
    · subst e; rw [h3] at h; exact absurd h.2.2.2 (by decide)
    · exact c ⟨by omega, h.2⟩
theorem woTo_done (bs : List Bool) (ns : List Int) (i : Nat) (h : i = 24 ∨ bs.length ≤ i ∨ ns.length ≤ i) (hi : i ≤ 24) : woTo bs ns i = woT bs ns := by
  unfold woT woTo
  apply List.map_congr_left
  intro j hj
  have hj := List.mem_range.1 hj
  by_cases c : j < i ∧ j < bs.length ∧ j < ns.length ∧ bs.getD j false = true
  · rw [if_pos c, if_pos ⟨by omega, c.2⟩]
  · rw [if_neg c, if_neg (fun h' => c ⟨by omega, h'.2⟩)]
theorem cell_ofB {w : World} {A : Option Addr} {n : Nat} {l : List Bool} (h : Kd.C Kd.bool w A n l) (i : Nat) (hi : i < n) : ∃ ad, A = some ad ∧ w.cell? (ad.add i) = some (.bool (l.getD i false)) := by
  obtain ⟨ad, c, ha, hl, hk, hc⟩ := Kd.C_get h false (i : Int) (by omega) (by omega)
  refine ⟨ad, ha, ?_⟩
  have hk' : c = [.bool (l.getD (i : Int).toNat false)] := hk
  have := hc 0 _ (by rw [hk']; rfl)
  have hz : Kd.bool.sz = 1 := rfl
  rw [hz] at this
  simpa using this

set_option maxHeartbeats 1000000 in
set_option maxRecDepth 100000 in
theorem env_Words (A0 : Option Addr) (c0 : Nat) (l0 : List Bool) (A1 : Option Addr) (c1 : Nat) (l1 : List Int) (w : World) (hr0 : Kd.C Kd.bool w A0 l0.length l0) (hc0 : l0.length ≤ c0) (hr1 : Kd.C (Kd.int .i64) w A1 l1.length l1) (hc1 : l1.length ≤ c1) :
    Calls Try.prog 43 #[.slice A0 l0.length c0, .slice A1 l1.length c1] w fun e w' => e = .returned (.agg (wcells (woT l0 l1))) ∧ Below w.heap.size w w' := by
  have HR0 := Aside0.mk hr0
  have HR1 := Aside0.mk hr1
  clear hr0 hr1
  obtain ⟨n0, hn0⟩ : ∃ n0, n0 = l0.length := ⟨_, rfl⟩
  obtain ⟨n1, hn1⟩ : ∃ n1, n1 = l1.length := ⟨_, rfl⟩
  rw [← hn0, ← hn1]
  have N0 := Aside0.mk hn0
  have N1 := Aside0.mk hn1
  clear hn0 hn1 hc0 hc1
  go_enter Try.func43, Try.ntmps43
  go_wp2
  go_loopw [6] (fun c wr => ∃ i : Nat, c = .int .i64 i ∧ Aside0 (i ≤ 24 ∧ Below w.heap.size w wr ∧ IsW wr w.heap.size w0s ∧ IsW wr (w.heap.size + 1) (woTo l0 l1 i))) (fun c _ => 24 - (intOf c).toNat)
  case atStart => exact ⟨0, rfl, ⟨⟨by omega, below_alloc (below_alloc (Below.refl _ _) _) _, heap_alloc2_old _ _ _, by rw [woTo_zero]; exact heap_alloc2_new _ _ _⟩⟩⟩
  case round =>
    obtain ⟨i, rfl, HS⟩ := hrel
    obtain ⟨h24, hb, h0, ht⟩ := HS.out
    by_cases hi : i < 24
    · have hi' : (i : Int) < 24 := by omega
      by_cases h1 : i < n0
      · have h1' : (i : Int) < (n0 : Int) := by omega
        by_cases h2 : i < n1
        · have h2' : (i : Int) < (n1 : Int) := by omega
          obtain ⟨ad0, rfl, hc0⟩ := cell_ofB (Kd.C_below HR0.out hb) i (by rw [← N0.out]; exact h1)
          obtain ⟨ad1, rfl, hc1⟩ := cell_of (Kd.C_below HR1.out hb) i (by rw [← N1.out]; exact h2)
          have hl := woTo_len l0 l1 i
          cases hx : l0.getD i false with
          | true =>
            have hset := woTo_set l0 l1 i hi (by rw [← N0.out]; exact h1) (by rw [← N1.out]; exact h2) hx
            obtain ⟨y, hy⟩ : ∃ y, y = l1.getD i 0 := ⟨_, rfl⟩
            rw [hx] at hc0
            rw [← hy] at hc1 hset
            clear hx hy
            have s0 := ht.cell0 i (by rw [hl]; exact hi)
            have s1 := ht.cell1 i (by rw [hl]; exact hi)
            have f0 := ht.free (i * 2)
            have f1 := ht.free (i * 2 + 1)
            obtain ⟨u, hu⟩ : ∃ u, u = (woTo l0 l1 i)[i]'(by rw [hl]; exact hi) := ⟨_, rfl⟩
            rw [← hu] at s0 s1
            clear hu
            have HSet := Aside0.mk hset
            have HB := Aside0.mk hb
            have H0 := Aside0.mk h0
            have HT := Aside0.mk ht
            have HL := Aside0.mk hl
            clear hb h0 ht HS hset hl
            go_wp2
            go_roundw
            case rel => exact ⟨i + 1, by go_num, ⟨⟨by omega, (HB.out.setCell (by simp) _).setCell (by simp) _, (H0.out.far (by simp) _).far (by simp) _, by rw [← HSet.out]; exact HT.out.set i ⟨true, y⟩ (by rw [HL.out]; exact hi)⟩⟩⟩
            case measure => simp [intOf]; omega
          | false =>
            have hset := woTo_skip l0 l1 i hx
            rw [hx] at hc0
            have HSet := Aside0.mk hset
            have HB := Aside0.mk hb
            have H0 := Aside0.mk h0
            have HT := Aside0.mk ht
            clear hb h0 ht HS hset hl hx hc1
            go_wp2
            go_roundw
            case rel => exact ⟨i + 1, by go_num, ⟨⟨by omega, HB.out, H0.out, by rw [HSet.out]; exact HT.out⟩⟩⟩
            case measure => simp [intOf]; omega
        · have h2' : ¬ ((i : Int) < (n1 : Int)) := by omega
          have HO := Aside0.mk (woTo_done l0 l1 i (by right; right; rw [← N1.out]; omega) h24)
          have HB := Aside0.mk hb
          have H0 := Aside0.mk h0
          have HT := Aside0.mk ht
          clear hb h0 ht HS
          go_wp2_with (first
            | ((with_reducible refine gate_dst (N := 34) rfl ?_); refine wpList_load_row rfl 69 _ rfl (w.heap.size + 1) rfl 69 (wcells (woT l0 l1)) (0, 0) _ (by rw [← HO.out]; exact HT.out) Try.underlying69 rfl (wt_size (woTo_len _ _ _)) ?_)
            | ((with_reducible refine gate_store (t := 69) (p := 4) rfl ?_); refine wpList_store_row rfl 69 _ _ rfl w.heap.size (wcells (woT l0 l1)) rfl rfl 69 (wcells w0s) H0.out (wt_size (woTo_len _ _ _)) (by rw [wcells_size, wcells_size, w0s_len]; exact congrArg (2 * ·) (woTo_len _ _ _).symm) (wcells_one _) ?_))
          exact bodyPost_ret (v := .agg (wcells (woT l0 l1))) (results_cell_row rfl _ _ w.heap.size 69 (wcells (woT l0 l1)) (0, 0) _ rfl H0.out.laid Try.underlying69 rfl (wt_size (woTo_len _ _ _))) rfl ⟨rfl, below_setRow HB.out (Nat.le_refl _) _⟩
      · have h1' : ¬ ((i : Int) < (n0 : Int)) := by omega
        have HO := Aside0.mk (woTo_done l0 l1 i (by right; left; rw [← N0.out]; omega) h24)
        have HB := Aside0.mk hb
        have H0 := Aside0.mk h0
        have HT := Aside0.mk ht
        clear hb h0 ht HS
        go_wp2_with (first
          | ((with_reducible refine gate_dst (N := 34) rfl ?_); refine wpList_load_row rfl 69 _ rfl (w.heap.size + 1) rfl 69 (wcells (woT l0 l1)) (0, 0) _ (by rw [← HO.out]; exact HT.out) Try.underlying69 rfl (wt_size (woTo_len _ _ _)) ?_)
          | ((with_reducible refine gate_store (t := 69) (p := 4) rfl ?_); refine wpList_store_row rfl 69 _ _ rfl w.heap.size (wcells (woT l0 l1)) rfl rfl 69 (wcells w0s) H0.out (wt_size (woTo_len _ _ _)) (by rw [wcells_size, wcells_size, w0s_len]; exact congrArg (2 * ·) (woTo_len _ _ _).symm) (wcells_one _) ?_))
        exact bodyPost_ret (v := .agg (wcells (woT l0 l1))) (results_cell_row rfl _ _ w.heap.size 69 (wcells (woT l0 l1)) (0, 0) _ rfl H0.out.laid Try.underlying69 rfl (wt_size (woTo_len _ _ _))) rfl ⟨rfl, below_setRow HB.out (Nat.le_refl _) _⟩
    · have hi' : ¬ ((i : Int) < 24) := by omega
      have HO := Aside0.mk (woTo_done l0 l1 i (by left; omega) h24)
      have HB := Aside0.mk hb
      have H0 := Aside0.mk h0
      have HT := Aside0.mk ht
      clear hb h0 ht HS
      go_wp2_with (first
        | ((with_reducible refine gate_dst (N := 34) rfl ?_); refine wpList_load_row rfl 69 _ rfl (w.heap.size + 1) rfl 69 (wcells (woT l0 l1)) (0, 0) _ (by rw [← HO.out]; exact HT.out) Try.underlying69 rfl (wt_size (woTo_len _ _ _)) ?_)
        | ((with_reducible refine gate_store (t := 69) (p := 4) rfl ?_); refine wpList_store_row rfl 69 _ _ rfl w.heap.size (wcells (woT l0 l1)) rfl rfl 69 (wcells w0s) H0.out (wt_size (woTo_len _ _ _)) (by rw [wcells_size, wcells_size, w0s_len]; exact congrArg (2 * ·) (woTo_len _ _ _).symm) (wcells_one _) ?_))
      exact bodyPost_ret (v := .agg (wcells (woT l0 l1))) (results_cell_row rfl _ _ w.heap.size 69 (wcells (woT l0 l1)) (0, 0) _ rfl H0.out.laid Try.underlying69 rfl (wt_size (woTo_len _ _ _))) rfl ⟨rfl, below_setRow HB.out (Nat.le_refl _) _⟩

end Go.Proofs.Ytolacdlobopoiaa.Num
