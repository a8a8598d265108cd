/- The table behind an instruction: env.After, walked. Conditions: a table has 24 places. -/
import Derived.Test.YtolacdlobopoiaaNum0
import Derived.Test.YtolacdlobopoiaaEnvC
namespace Go.Proofs.Ytolacdlobopoiaa.Num
open Go.RowKit Go.Proofs.YtolacdlobopoiaaW.PrintWords Go.Proofs.YtolacdlobopoiaaW.PrintLast Go.Proofs.YtolacdlobopoiaaW.PrintMore
attribute [local go_sem] max2_int min2_int max_two min_two max_three min_three max_four min_four   -- for this text's walks alone
set_option linter.unusedVariables false
set_option linter.unusedSimpArgs false

def srAt (T : List Sr) (i : Int) : Sr := T.getD i.toNat .no
/-- The table behind an instruction, where it moves and its places may be. -/
def moveT (T : List Sr) (x : In) : List Sr :=
  if x.op = 1 then T.set x.d.toNat (.is x.n)
  else if x.op = 2 then T.set x.d.toNat (srAt T x.a)
  else if x.op = 3 then (T.set x.d.toNat (srAt T x.a)).set x.a.toNat (srAt T x.d)
  else T
def afterT (T : List Sr) (x : In) : List Sr := if x.moves = true ∧ inR x.d = true ∧ inR x.a = true then moveT (goodT T) x else goodT T
theorem moveT_len {T : List Sr} (x : In) (h : T.length = 24) : (moveT T x).length = 24 := by
  unfold moveT
  repeat' split
  all_goals simp [h]
theorem afterT_len {T : List Sr} (x : In) (h : T.length = 24) : (afterT T x).length = 24 := by
  unfold afterT
  split
  · exact moveT_len x (goodT_len h)
  · exact goodT_len h
/-- A block is an instruction. -/
def IsIns (w : World) (g : Nat) (x : In) : Prop := w.heap[g]? = some (.cells x.cells 62 (0, 0))
theorem IsIns.cells {w : World} {g : Nat} {x : In} (h : IsIns w g x) : w.cell? ⟨g, 0, none⟩ = some (.int .i64 x.op) ∧ w.cell? ⟨g, 1, none⟩ = some (.int .i64 x.d) ∧ w.cell? ⟨g, 2, none⟩ = some (.int .i64 x.a) ∧ w.cell? ⟨g, 4, none⟩ = some (.int .i64 x.n) := by
  refine ⟨?_, ?_, ?_, ?_⟩ <;> (rw [blk_cell h]; rfl)
theorem IsIns.below {w w' : World} {g : Nat} {x : In} (h : IsIns w g x) (hb : Below w.heap.size w w') : IsIns w' g x := (hb.block g (blk_lt h)).trans h
theorem IsIns.row {w : World} {g g' : Nat} {x : In} (h : IsIns w g x) (hne : g ≠ g') (cs : Array Value) : IsIns (w.setRow g' cs) g x := (setRow_other w g' g cs hne).trans h
theorem IsIns.far {w : World} {g : Nat} {x : In} (h : IsIns w g x) {p : Addr} (hp : g ≠ p.block) (u : Value) : IsIns (w.setCell p u) g x := blk_far h hp u
theorem IsTab.row {w : World} {g g' : Nat} {T : List Sr} (h : IsTab w g T) (hne : g ≠ g') (cs : Array Value) : IsTab (w.setRow g' cs) g T := (setRow_other w g' g cs hne).trans h
theorem IsTab.laid {w : World} {g : Nat} {T U : List Sr} (h : IsTab w g T) : IsTab (w.setRow g (tcells U)) g U := setRow_heap w g _ _ 57 _ h
theorem ins_box (x : In) : In.cells x = #[.int .i64 x.op, .int .i64 x.d, .int .i64 x.a, .int .i64 x.b, .int .i64 x.n, .int .i64 x.jt] := rfl
theorem info62 : (Try.prog.info? 62).map (·.size) = some 6 := by kernel_rfl
theorem box3 (w : World) (A B C : Obj) : (((w.alloc A).alloc B).alloc C).heap[w.heap.size]? = some A := by
  show (((w.heap.push A).push B).push C)[w.heap.size]? = some A
  simp [Array.getElem?_push]
  intro h
  omega
/-- A source stored into a place's cell. -/
theorem store_sr (W : World) (a : Addr) (s : Sr) (u : Value) (hc : W.cell? a = some u) (hf : W.frozen? a = false) : (store a s.v).run Try.prog W = .ok () (W.setCell a s.v) := by
  rw [run_store Try.prog W a s.v _ s.one, hc]
  simp [hf]
theorem Sr.own (s : Sr) : s.v.cells = #[s.v] := by cases s <;> rfl
theorem IsTab.at_ {w : World} {g : Nat} {T : List Sr} (h : IsTab w g T) (hl : T.length = 24) {i : Int} (hi : 0 ≤ i ∧ i ≤ 23) : w.cell? ⟨g, i.toNat, none⟩ = some (srAt T i).v ∧ w.frozen? ⟨g, i.toNat, none⟩ = false := by
  have hlt : i.toNat < T.length := by omega
  refine ⟨?_, h.free _⟩
  rw [h.cell i.toNat hlt]
  unfold srAt
  simp [List.getD_eq_getElem?_getD, hlt]
/-- A second source stored into the same table. -/
theorem store_sr2 {W : World} {g : Nat} {T : List Sr} (h : IsTab W g T) (hl : T.length = 24) (i : Nat) {j : Int} (hj : 0 ≤ j ∧ j ≤ 23) (s u : Sr) : (store ⟨g, j.toNat, none⟩ u.v).run Try.prog (W.setCell ⟨g, i, none⟩ s.v) = .ok () ((W.setCell ⟨g, i, none⟩ s.v).setCell ⟨g, j.toNat, none⟩ u.v) := by
  obtain ⟨h1, h2⟩ := (h.set i s).at_ (by rw [List.length_set]; exact hl) hj
  exact store_sr _ _ _ _ h1 h2
/-- Three blocks laid one behind the other, and a call behind them: they are as they were. -/
theorem three_after {w w1 : World} {A B C : Obj} (hb : Below (((w.alloc A).alloc B).alloc C).heap.size (((w.alloc A).alloc B).alloc C) w1) :
    w1.heap[w.heap.size]? = some A ∧ w1.heap[w.heap.size + 1]? = some B ∧ w1.heap[w.heap.size + 2]? = some C ∧ Below w.heap.size w w1 := by
  have h0 : (w.alloc A).heap.size = w.heap.size + 1 := by simp
  have hs : (((w.alloc A).alloc B).alloc C).heap.size = w.heap.size + 3 := by simp
  have hC : (((w.alloc A).alloc B).alloc C).heap[w.heap.size + 2]? = some C := by
    have := heap_alloc2_new (w.alloc A) B C
    rw [h0] at this
    exact this
  have hB : (((w.alloc A).alloc B).alloc C).heap[w.heap.size + 1]? = some B := by
    have := heap_alloc2_old (w.alloc A) B C
    rw [h0] at this
    exact this
  have hA : (((w.alloc A).alloc B).alloc C).heap[w.heap.size]? = some A := box3 w A B C
  exact ⟨(hb.block _ (by omega)).trans hA, (hb.block _ (by omega)).trans hB, (hb.block _ (by omega)).trans hC, below_step (below_alloc (below_alloc (below_alloc (Below.refl _ _) _) _) _) hb⟩
set_option maxHeartbeats 8000000 in
set_option maxRecDepth 100000 in
theorem env_After (T : List Sr) (hT : T.length = 24) (x : In) (w : World) : Calls Try.prog 42 #[.agg (tcells T), .agg x.cells] w fun e w' => e = .returned (.agg (tcells (afterT T x))) ∧ Below w.heap.size w w' := by
  have hG := env_good T hT
  obtain ⟨G, hg⟩ : ∃ G, G = goodT T := ⟨_, rfl⟩
  have hGl : G.length = 24 := by rw [hg]; exact goodT_len hT
  rw [← hg] at hG
  have HL := Aside0.mk hT
  have HGl := Aside0.mk hGl
  have HG := Aside0.mk hG
  have HGe := Aside0.mk hg
  obtain ⟨R, hR⟩ : ∃ R, R = afterT T x := ⟨_, rfl⟩
  rw [← hR]
  have HR := Aside0.mk hR
  clear hR hG hg hGl hT
  cases hm : x.moves with
  | false =>
    obtain rfl : R = G := HR.out.trans (by unfold afterT; rw [if_neg (fun h => by rw [hm] at h; exact absurd h.1 (by decide)), HGe.out])
    have hM := ins_Moves x
    rw [hm] at hM
    have HM := Aside0.mk hM
    clear hM hm
    go_enter Try.func42, Try.ntmps42
    go_wp2_with (first
        | ((with_reducible refine gate_dst (N := 5) rfl ?_); refine wpList_load_row rfl 57 _ rfl w.heap.size rfl 57 (tcells T) (0, 0) _ (box3 w _ _ _) Try.underlying57 rfl (tab_size HL.out) ?_)
        | (go_at_call 52; refine (HG.out _).mono ?_; rintro e w1 ⟨rfl, hb⟩; obtain ⟨ht, hi, hr, hb2⟩ := three_after hb; have KT := Aside0.mk (show IsTab w1 w.heap.size T from ht); have KI := Aside0.mk (show IsIns w1 (w.heap.size + 1) x from hi); have KR := Aside0.mk (show IsTab w1 (w.heap.size + 2) noes from hr); have HB := Aside0.mk hb2; clear ht hi hr hb hb2)
        | ((with_reducible refine gate_store (t := 57) (p := 2) rfl ?_); refine wpList_store_row rfl 57 _ _ rfl w.heap.size (tcells R) rfl rfl 57 (tcells T) KT.out (tab_size HGl.out) (by rw [tcells_size, tcells_size, HL.out, HGl.out]) (tcells_one R) ?_; have KT2 := Aside0.mk (show IsTab (w1.setRow w.heap.size (tcells R)) w.heap.size R from KT.out.laid); have KI2 := Aside0.mk (KI.out.row (by omega) (tcells R) (g' := w.heap.size)); have KR2 := Aside0.mk (KR.out.row (by omega) (tcells R) (g' := w.heap.size)); have HB2 := Aside0.mk (below_setRow HB.out (Nat.le_refl _) (tcells R)))
        | ((with_reducible refine gate_dst (N := 7) rfl ?_); refine wpList_load_row rfl 62 _ rfl (w.heap.size + 1) rfl 62 x.cells (0, 0) _ KI2.out Try.underlying62 rfl info62 ?_)
        | (go_at_call 53; refine (HM.out _).mono ?_; rintro e w3 ⟨rfl, hb⟩; have KT3 := Aside0.mk (KT2.out.below hb); have KR3 := Aside0.mk (KR2.out.below hb); have HB3 := Aside0.mk (below_step HB2.out hb); clear hb)
        | ((with_reducible refine gate_dst (N := 22) rfl ?_); refine wpList_load_row rfl 57 _ rfl w.heap.size rfl 57 (tcells R) (0, 0) _ KT3.out Try.underlying57 rfl (tab_size HGl.out) ?_)
        | ((with_reducible refine gate_store (t := 57) (p := 4) rfl ?_); refine wpList_store_row rfl 57 _ _ rfl (w.heap.size + 2) (tcells R) rfl rfl 57 (tcells noes) KR3.out (tab_size HGl.out) (by rw [tcells_size, tcells_size, HGl.out]; rfl) (tcells_one R) ?_))
    exact bodyPost_ret (v := .agg (tcells R)) (results_cell_row rfl _ _ (w.heap.size + 2) 57 (tcells R) (0, 0) _ rfl KR3.out.laid Try.underlying57 rfl (tab_size HGl.out)) rfl ⟨rfl, below_setRow HB3.out (by omega) _⟩
  | true =>
    have hM := ins_Moves x
    rw [hm] at hM
    have HM := Aside0.mk hM
    have Hm := Aside0.mk hm
    clear hM hm
    have hrd := right_calls x.d
    have hra := right_calls x.a
    cases hd : inR x.d with
    | false =>
      obtain rfl : R = G := HR.out.trans (by unfold afterT; rw [if_neg (fun h => by rw [hd] at h; exact absurd h.2.1 (by decide)), HGe.out])
      rw [hd] at hrd
      have RD := Aside0.mk hrd
      clear hrd hra hd
      go_enter Try.func42, Try.ntmps42
      go_wp2_with (first
          | ((with_reducible refine gate_dst (N := 5) rfl ?_); refine wpList_load_row rfl 57 _ rfl w.heap.size rfl 57 (tcells T) (0, 0) _ (box3 w _ _ _) Try.underlying57 rfl (tab_size HL.out) ?_)
          | (go_at_call 52; refine (HG.out _).mono ?_; rintro e w1 ⟨rfl, hb⟩; obtain ⟨ht, hi, hr, hb2⟩ := three_after hb; have KT := Aside0.mk (show IsTab w1 w.heap.size T from ht); have KI := Aside0.mk (show IsIns w1 (w.heap.size + 1) x from hi); have KR := Aside0.mk (show IsTab w1 (w.heap.size + 2) noes from hr); have HB := Aside0.mk hb2; clear ht hi hr hb hb2)
          | ((with_reducible refine gate_store (t := 57) (p := 2) rfl ?_); refine wpList_store_row rfl 57 _ _ rfl w.heap.size (tcells R) rfl rfl 57 (tcells T) KT.out (tab_size HGl.out) (by rw [tcells_size, tcells_size, HL.out, HGl.out]) (tcells_one R) ?_; have KT2 := Aside0.mk (show IsTab (w1.setRow w.heap.size (tcells R)) w.heap.size R from KT.out.laid); have KI2 := Aside0.mk (KI.out.row (by omega) (tcells R) (g' := w.heap.size)); have KR2 := Aside0.mk (KR.out.row (by omega) (tcells R) (g' := w.heap.size)); have HB2 := Aside0.mk (below_setRow HB.out (Nat.le_refl _) (tcells R)))
          | ((with_reducible refine gate_dst (N := 7) rfl ?_); refine wpList_load_row rfl 62 _ rfl (w.heap.size + 1) rfl 62 x.cells (0, 0) _ KI2.out Try.underlying62 rfl info62 ?_)
          | (go_at_call 53; refine (HM.out _).mono ?_; rintro e w3 ⟨rfl, hb⟩; have KT3 := Aside0.mk (KT2.out.below hb); have KI3 := Aside0.mk (KI2.out.below hb); have KR3 := Aside0.mk (KR2.out.below hb); have HB3 := Aside0.mk (below_step HB2.out hb); clear hb; obtain ⟨c0, c1, c2, c4⟩ := KI3.out.cells)
          | (go_at_call 21; (with_reducible refine (RD.out _).mono ?_); rintro e w' ⟨rfl, ⟨nd, rfl⟩⟩)
          | ((with_reducible refine gate_dst (N := 22) rfl ?_); refine wpList_load_row rfl 57 _ rfl w.heap.size rfl 57 (tcells R) (0, 0) _ KT3.out Try.underlying57 rfl (tab_size HGl.out) ?_)
          | ((with_reducible refine gate_store (t := 57) (p := 4) rfl ?_); refine wpList_store_row rfl 57 _ _ rfl (w.heap.size + 2) (tcells R) rfl rfl 57 (tcells noes) KR3.out (tab_size HGl.out) (by rw [tcells_size, tcells_size, HGl.out]; rfl) (tcells_one R) ?_))
      exact bodyPost_ret (v := .agg (tcells R)) (results_cell_row rfl _ _ (w.heap.size + 2) 57 (tcells R) (0, 0) _ rfl KR3.out.laid Try.underlying57 rfl (tab_size HGl.out)) rfl ⟨rfl, below_setRow (pw_below_drewN HB3.out _) (by omega) _⟩
    | true =>
      rw [hd] at hrd
      have RD := Aside0.mk hrd
      have Hd := Aside0.mk hd
      clear hrd hd
      cases ha : inR x.a with
      | false =>
        obtain rfl : R = G := HR.out.trans (by unfold afterT; rw [if_neg (fun h => by rw [ha] at h; exact absurd h.2.2 (by decide)), HGe.out])
        rw [ha] at hra
        have RA := Aside0.mk hra
        clear hra ha
        go_enter Try.func42, Try.ntmps42
        go_wp2_with (first
            | ((with_reducible refine gate_dst (N := 5) rfl ?_); refine wpList_load_row rfl 57 _ rfl w.heap.size rfl 57 (tcells T) (0, 0) _ (box3 w _ _ _) Try.underlying57 rfl (tab_size HL.out) ?_)
            | (go_at_call 52; refine (HG.out _).mono ?_; rintro e w1 ⟨rfl, hb⟩; obtain ⟨ht, hi, hr, hb2⟩ := three_after hb; have KT := Aside0.mk (show IsTab w1 w.heap.size T from ht); have KI := Aside0.mk (show IsIns w1 (w.heap.size + 1) x from hi); have KR := Aside0.mk (show IsTab w1 (w.heap.size + 2) noes from hr); have HB := Aside0.mk hb2; clear ht hi hr hb hb2)
            | ((with_reducible refine gate_store (t := 57) (p := 2) rfl ?_); refine wpList_store_row rfl 57 _ _ rfl w.heap.size (tcells R) rfl rfl 57 (tcells T) KT.out (tab_size HGl.out) (by rw [tcells_size, tcells_size, HL.out, HGl.out]) (tcells_one R) ?_; have KT2 := Aside0.mk (show IsTab (w1.setRow w.heap.size (tcells R)) w.heap.size R from KT.out.laid); have KI2 := Aside0.mk (KI.out.row (by omega) (tcells R) (g' := w.heap.size)); have KR2 := Aside0.mk (KR.out.row (by omega) (tcells R) (g' := w.heap.size)); have HB2 := Aside0.mk (below_setRow HB.out (Nat.le_refl _) (tcells R)))
            | ((with_reducible refine gate_dst (N := 7) rfl ?_); refine wpList_load_row rfl 62 _ rfl (w.heap.size + 1) rfl 62 x.cells (0, 0) _ KI2.out Try.underlying62 rfl info62 ?_)
            | (go_at_call 53; refine (HM.out _).mono ?_; rintro e w3 ⟨rfl, hb⟩; have KT3 := Aside0.mk (KT2.out.below hb); have KI3 := Aside0.mk (KI2.out.below hb); have KR3 := Aside0.mk (KR2.out.below hb); have HB3 := Aside0.mk (below_step HB2.out hb); clear hb; obtain ⟨c0, c1, c2, c4⟩ := KI3.out.cells)
            | (go_at_call 21; (with_reducible refine (RD.out _).mono ?_); rintro e w' ⟨rfl, ⟨nd, rfl⟩⟩)
            | (go_at_call 21; (with_reducible refine (RA.out _).mono ?_); rintro e w' ⟨rfl, ⟨nd2, rfl⟩⟩)
            | ((with_reducible refine gate_dst (N := 22) rfl ?_); refine wpList_load_row rfl 57 _ rfl w.heap.size rfl 57 (tcells R) (0, 0) _ KT3.out Try.underlying57 rfl (tab_size HGl.out) ?_)
            | ((with_reducible refine gate_store (t := 57) (p := 4) rfl ?_); refine wpList_store_row rfl 57 _ _ rfl (w.heap.size + 2) (tcells R) rfl rfl 57 (tcells noes) KR3.out (tab_size HGl.out) (by rw [tcells_size, tcells_size, HGl.out]; rfl) (tcells_one R) ?_))
        exact bodyPost_ret (v := .agg (tcells R)) (results_cell_row rfl _ _ (w.heap.size + 2) 57 (tcells R) (0, 0) _ rfl KR3.out.laid Try.underlying57 rfl (tab_size HGl.out)) rfl ⟨rfl, below_setRow (pw_below_drewN HB3.out _) (by omega) _⟩
      | true =>
        have hRm : R = moveT G x := HR.out.trans (by unfold afterT; rw [if_pos ⟨Hm.out, Hd.out, ha⟩, HGe.out])
        rw [ha] at hra
        have RA := Aside0.mk hra
        have HRm := Aside0.mk hRm
        have hd0 : 0 ≤ x.d ∧ x.d ≤ 23 := of_decide_eq_true Hd.out
        have ha0 : 0 ≤ x.a ∧ x.a ≤ 23 := of_decide_eq_true ha
        clear hra ha hRm
        have hRl : R.length = 24 := by rw [HRm.out]; exact moveT_len x HGl.out
        have HRl := Aside0.mk hRl
        have hops : x.op = 1 ∨ x.op = 2 ∨ x.op = 3 ∨ x.op = 16 := of_decide_eq_true Hm.out
        clear hRl
        rcases hops with ho | ho | ho | ho
        · have HRs := Aside0.mk (show R = G.set x.d.toNat (.is x.n) by rw [HRm.out]; unfold moveT; rw [if_pos ho])
          go_enter Try.func42, Try.ntmps42
          go_wp2_with (first
              | ((with_reducible refine gate_dst (N := 5) rfl ?_); refine wpList_load_row rfl 57 _ rfl w.heap.size rfl 57 (tcells T) (0, 0) _ (box3 w _ _ _) Try.underlying57 rfl (tab_size HL.out) ?_)
              | (go_at_call 52; refine (HG.out _).mono ?_; rintro e w1 ⟨rfl, hb⟩; obtain ⟨ht, hi, hr, hb2⟩ := three_after hb; have KT := Aside0.mk (show IsTab w1 w.heap.size T from ht); have KI := Aside0.mk (show IsIns w1 (w.heap.size + 1) x from hi); have KR := Aside0.mk (show IsTab w1 (w.heap.size + 2) noes from hr); have HB := Aside0.mk hb2; clear ht hi hr hb hb2)
              | ((with_reducible refine gate_store (t := 57) (p := 2) rfl ?_); refine wpList_store_row rfl 57 _ _ rfl w.heap.size (tcells G) rfl rfl 57 (tcells T) KT.out (tab_size HGl.out) (by rw [tcells_size, tcells_size, HL.out, HGl.out]) (tcells_one G) ?_; have KT2 := Aside0.mk (show IsTab (w1.setRow w.heap.size (tcells G)) w.heap.size G from KT.out.laid); have KI2 := Aside0.mk (KI.out.row (by omega) (tcells G) (g' := w.heap.size)); have KR2 := Aside0.mk (KR.out.row (by omega) (tcells G) (g' := w.heap.size)); have HB2 := Aside0.mk (below_setRow HB.out (Nat.le_refl _) (tcells G)))
              | ((with_reducible refine gate_dst (N := 7) rfl ?_); refine wpList_load_row rfl 62 _ rfl (w.heap.size + 1) rfl 62 x.cells (0, 0) _ KI2.out Try.underlying62 rfl info62 ?_)
              | (go_at_call 53; refine (HM.out _).mono ?_; rintro e w3 ⟨rfl, hb⟩; have KT3 := Aside0.mk (KT2.out.below hb); have KI3 := Aside0.mk (KI2.out.below hb); have KR3 := Aside0.mk (KR2.out.below hb); have HB3 := Aside0.mk (below_step HB2.out hb); clear hb; obtain ⟨c0, c1, c2, c4⟩ := KI3.out.cells; obtain ⟨td, tf⟩ := KT3.out.at_ HGl.out hd0; obtain ⟨tb, tg⟩ := KT3.out.at_ HGl.out ha0)
              | (go_at_call 21; (with_reducible refine (RD.out _).mono ?_); rintro e w' ⟨rfl, ⟨nd, rfl⟩⟩)
              | (go_at_call 21; (with_reducible refine (RA.out _).mono ?_); rintro e w' ⟨rfl, ⟨nd2, rfl⟩⟩)
              | ((with_reducible refine gate_dst (N := 59) rfl ?_); refine wpList_load_row rfl 57 _ rfl w.heap.size rfl 57 (tcells R) (0, 0) _ (by rw [HRs.out]; exact (KT3.out.set x.d.toNat (.is x.n))) Try.underlying57 rfl (tab_size HRl.out) ?_)
              | ((with_reducible refine gate_store (t := 57) (p := 4) rfl ?_); refine wpList_store_row rfl 57 _ _ rfl (w.heap.size + 2) (tcells R) rfl rfl 57 (tcells noes) (show IsTab _ (w.heap.size + 2) noes from KR3.out.far (by simp) _) (tab_size HRl.out) (by rw [tcells_size, tcells_size, HRl.out]; rfl) (tcells_one R) ?_))
          exact bodyPost_ret (v := .agg (tcells R)) (results_cell_row rfl _ _ (w.heap.size + 2) 57 (tcells R) (0, 0) _ rfl (setRow_heap _ (w.heap.size + 2) _ _ 57 _ (show IsTab _ (w.heap.size + 2) noes from KR3.out.far (by simp) _)) Try.underlying57 rfl (tab_size HRl.out)) rfl ⟨rfl, below_setRow ((pw_below_drewN HB3.out _).setCell (Nat.le_refl _) _) (by omega) _⟩

        · have HRs := Aside0.mk (show R = G.set x.d.toNat (srAt G x.a) by rw [HRm.out]; unfold moveT; rw [if_neg (by omega), if_pos ho])
          go_enter Try.func42, Try.ntmps42
          go_wp2_with (first
              | ((with_reducible refine gate_dst (N := 5) rfl ?_); refine wpList_load_row rfl 57 _ rfl w.heap.size rfl 57 (tcells T) (0, 0) _ (box3 w _ _ _) Try.underlying57 rfl (tab_size HL.out) ?_)
              | (go_at_call 52; refine (HG.out _).mono ?_; rintro e w1 ⟨rfl, hb⟩; obtain ⟨ht, hi, hr, hb2⟩ := three_after hb; have KT := Aside0.mk (show IsTab w1 w.heap.size T from ht); have KI := Aside0.mk (show IsIns w1 (w.heap.size + 1) x from hi); have KR := Aside0.mk (show IsTab w1 (w.heap.size + 2) noes from hr); have HB := Aside0.mk hb2; clear ht hi hr hb hb2)
              | ((with_reducible refine gate_store (t := 57) (p := 2) rfl ?_); refine wpList_store_row rfl 57 _ _ rfl w.heap.size (tcells G) rfl rfl 57 (tcells T) KT.out (tab_size HGl.out) (by rw [tcells_size, tcells_size, HL.out, HGl.out]) (tcells_one G) ?_; have KT2 := Aside0.mk (show IsTab (w1.setRow w.heap.size (tcells G)) w.heap.size G from KT.out.laid); have KI2 := Aside0.mk (KI.out.row (by omega) (tcells G) (g' := w.heap.size)); have KR2 := Aside0.mk (KR.out.row (by omega) (tcells G) (g' := w.heap.size)); have HB2 := Aside0.mk (below_setRow HB.out (Nat.le_refl _) (tcells G)))
              | ((with_reducible refine gate_dst (N := 7) rfl ?_); refine wpList_load_row rfl 62 _ rfl (w.heap.size + 1) rfl 62 x.cells (0, 0) _ KI2.out Try.underlying62 rfl info62 ?_)
              | (go_at_call 53; refine (HM.out _).mono ?_; rintro e w3 ⟨rfl, hb⟩; have KT3 := Aside0.mk (KT2.out.below hb); have KI3 := Aside0.mk (KI2.out.below hb); have KR3 := Aside0.mk (KR2.out.below hb); have HB3 := Aside0.mk (below_step HB2.out hb); clear hb; obtain ⟨c0, c1, c2, c4⟩ := KI3.out.cells; obtain ⟨td, tf⟩ := KT3.out.at_ HGl.out hd0; obtain ⟨tb, tg⟩ := KT3.out.at_ HGl.out ha0; have o1 := fun k => store_sr (w3.drewN k) ⟨w.heap.size, x.d.toNat, none⟩ (srAt G x.a) (srAt G x.d).v td tf; have o2 := (srAt G x.a).own; unfold Value.cells at o2; have q1 : x.a < 24 := Int.lt_add_one_of_le ha0.2; have q2 : x.d < 24 := Int.lt_add_one_of_le hd0.2; have q3 := ha0.1; have q4 := hd0.1)
              | (go_at_call 21; (with_reducible refine (RD.out _).mono ?_); rintro e w' ⟨rfl, ⟨nd, rfl⟩⟩)
              | (go_at_call 21; (with_reducible refine (RA.out _).mono ?_); rintro e w' ⟨rfl, ⟨nd2, rfl⟩⟩))
          go_region
          all_goals
            go_wp2_with (first
              | ((with_reducible refine gate_dst (N := 59) rfl ?_); refine wpList_load_row rfl 57 _ rfl w.heap.size rfl 57 (tcells R) (0, 0) _ (by rw [HRs.out]; exact (KT3.out.set x.d.toNat (srAt G x.a))) Try.underlying57 rfl (tab_size HRl.out) ?_)
              | ((with_reducible refine gate_store (t := 57) (p := 4) rfl ?_); refine wpList_store_row rfl 57 _ _ rfl (w.heap.size + 2) (tcells R) rfl rfl 57 (tcells noes) (show IsTab _ (w.heap.size + 2) noes from KR3.out.far (by simp) _) (tab_size HRl.out) (by rw [tcells_size, tcells_size, HRl.out]; rfl) (tcells_one R) ?_))
            exact bodyPost_ret (v := .agg (tcells R)) (results_cell_row rfl _ _ (w.heap.size + 2) 57 (tcells R) (0, 0) _ rfl (setRow_heap _ (w.heap.size + 2) _ _ 57 _ (show IsTab _ (w.heap.size + 2) noes from KR3.out.far (by simp) _)) Try.underlying57 rfl (tab_size HRl.out)) rfl ⟨rfl, below_setRow ((pw_below_drewN HB3.out _).setCell (Nat.le_refl _) _) (by omega) _⟩
        · have HRs := Aside0.mk (show R = (G.set x.d.toNat (srAt G x.a)).set x.a.toNat (srAt G x.d) by rw [HRm.out]; unfold moveT; rw [if_neg (by omega), if_neg (by omega), if_pos ho])
          go_enter Try.func42, Try.ntmps42
          go_wp2_with (first
              | ((with_reducible refine gate_dst (N := 5) rfl ?_); refine wpList_load_row rfl 57 _ rfl w.heap.size rfl 57 (tcells T) (0, 0) _ (box3 w _ _ _) Try.underlying57 rfl (tab_size HL.out) ?_)
              | (go_at_call 52; refine (HG.out _).mono ?_; rintro e w1 ⟨rfl, hb⟩; obtain ⟨ht, hi, hr, hb2⟩ := three_after hb; have KT := Aside0.mk (show IsTab w1 w.heap.size T from ht); have KI := Aside0.mk (show IsIns w1 (w.heap.size + 1) x from hi); have KR := Aside0.mk (show IsTab w1 (w.heap.size + 2) noes from hr); have HB := Aside0.mk hb2; clear ht hi hr hb hb2)
              | ((with_reducible refine gate_store (t := 57) (p := 2) rfl ?_); refine wpList_store_row rfl 57 _ _ rfl w.heap.size (tcells G) rfl rfl 57 (tcells T) KT.out (tab_size HGl.out) (by rw [tcells_size, tcells_size, HL.out, HGl.out]) (tcells_one G) ?_; have KT2 := Aside0.mk (show IsTab (w1.setRow w.heap.size (tcells G)) w.heap.size G from KT.out.laid); have KI2 := Aside0.mk (KI.out.row (by omega) (tcells G) (g' := w.heap.size)); have KR2 := Aside0.mk (KR.out.row (by omega) (tcells G) (g' := w.heap.size)); have HB2 := Aside0.mk (below_setRow HB.out (Nat.le_refl _) (tcells G)))
              | ((with_reducible refine gate_dst (N := 7) rfl ?_); refine wpList_load_row rfl 62 _ rfl (w.heap.size + 1) rfl 62 x.cells (0, 0) _ KI2.out Try.underlying62 rfl info62 ?_)
              | (go_at_call 53; refine (HM.out _).mono ?_; rintro e w3 ⟨rfl, hb⟩; have KT3 := Aside0.mk (KT2.out.below hb); have KI3 := Aside0.mk (KI2.out.below hb); have KR3 := Aside0.mk (KR2.out.below hb); have HB3 := Aside0.mk (below_step HB2.out hb); clear hb; obtain ⟨c0, c1, c2, c4⟩ := KI3.out.cells; obtain ⟨td, tf⟩ := KT3.out.at_ HGl.out hd0; obtain ⟨tb, tg⟩ := KT3.out.at_ HGl.out ha0; have o1 := fun k => store_sr (w3.drewN k) ⟨w.heap.size, x.d.toNat, none⟩ (srAt G x.a) (srAt G x.d).v td tf; have o2 := (srAt G x.a).own; unfold Value.cells at o2; have o3 := (srAt G x.d).own; unfold Value.cells at o3; have o4 := fun k => store_sr2 (show IsTab (w3.drewN k) w.heap.size G from KT3.out) HGl.out x.d.toNat ha0 (srAt G x.a) (srAt G x.d); have q1 : x.a < 24 := Int.lt_add_one_of_le ha0.2; have q2 : x.d < 24 := Int.lt_add_one_of_le hd0.2; have q3 := ha0.1; have q4 := hd0.1)
              | (go_at_call 21; (with_reducible refine (RD.out _).mono ?_); rintro e w' ⟨rfl, ⟨nd, rfl⟩⟩)
              | (go_at_call 21; (with_reducible refine (RA.out _).mono ?_); rintro e w' ⟨rfl, ⟨nd2, rfl⟩⟩))
          go_region
          all_goals
            go_wp2_with (first
              | ((with_reducible refine gate_dst (N := 59) rfl ?_); refine wpList_load_row rfl 57 _ rfl w.heap.size rfl 57 (tcells R) (0, 0) _ (by rw [HRs.out]; exact ((KT3.out.set x.d.toNat (srAt G x.a)).set x.a.toNat (srAt G x.d))) Try.underlying57 rfl (tab_size HRl.out) ?_)
              | ((with_reducible refine gate_store (t := 57) (p := 4) rfl ?_); refine wpList_store_row rfl 57 _ _ rfl (w.heap.size + 2) (tcells R) rfl rfl 57 (tcells noes) (show IsTab _ (w.heap.size + 2) noes from IsTab.far (KR3.out.far (by simp) _) (by simp) _) (tab_size HRl.out) (by rw [tcells_size, tcells_size, HRl.out]; rfl) (tcells_one R) ?_))
            exact bodyPost_ret (v := .agg (tcells R)) (results_cell_row rfl _ _ (w.heap.size + 2) 57 (tcells R) (0, 0) _ rfl (setRow_heap _ (w.heap.size + 2) _ _ 57 _ (show IsTab _ (w.heap.size + 2) noes from IsTab.far (KR3.out.far (by simp) _) (by simp) _)) Try.underlying57 rfl (tab_size HRl.out)) rfl ⟨rfl, below_setRow (((pw_below_drewN HB3.out _).setCell (Nat.le_refl _) _).setCell (Nat.le_refl _) _) (by omega) _⟩
        · have HRs := Aside0.mk (show R = G by rw [HRm.out]; unfold moveT; rw [if_neg (by omega), if_neg (by omega), if_neg (by omega)])
          go_enter Try.func42, Try.ntmps42
          go_wp2_with (first
              | ((with_reducible refine gate_dst (N := 5) rfl ?_); refine wpList_load_row rfl 57 _ rfl w.heap.size rfl 57 (tcells T) (0, 0) _ (box3 w _ _ _) Try.underlying57 rfl (tab_size HL.out) ?_)
              | (go_at_call 52; refine (HG.out _).mono ?_; rintro e w1 ⟨rfl, hb⟩; obtain ⟨ht, hi, hr, hb2⟩ := three_after hb; have KT := Aside0.mk (show IsTab w1 w.heap.size T from ht); have KI := Aside0.mk (show IsIns w1 (w.heap.size + 1) x from hi); have KR := Aside0.mk (show IsTab w1 (w.heap.size + 2) noes from hr); have HB := Aside0.mk hb2; clear ht hi hr hb hb2)
              | ((with_reducible refine gate_store (t := 57) (p := 2) rfl ?_); refine wpList_store_row rfl 57 _ _ rfl w.heap.size (tcells G) rfl rfl 57 (tcells T) KT.out (tab_size HGl.out) (by rw [tcells_size, tcells_size, HL.out, HGl.out]) (tcells_one G) ?_; have KT2 := Aside0.mk (show IsTab (w1.setRow w.heap.size (tcells G)) w.heap.size G from KT.out.laid); have KI2 := Aside0.mk (KI.out.row (by omega) (tcells G) (g' := w.heap.size)); have KR2 := Aside0.mk (KR.out.row (by omega) (tcells G) (g' := w.heap.size)); have HB2 := Aside0.mk (below_setRow HB.out (Nat.le_refl _) (tcells G)))
              | ((with_reducible refine gate_dst (N := 7) rfl ?_); refine wpList_load_row rfl 62 _ rfl (w.heap.size + 1) rfl 62 x.cells (0, 0) _ KI2.out Try.underlying62 rfl info62 ?_)
              | (go_at_call 53; refine (HM.out _).mono ?_; rintro e w3 ⟨rfl, hb⟩; have KT3 := Aside0.mk (KT2.out.below hb); have KI3 := Aside0.mk (KI2.out.below hb); have KR3 := Aside0.mk (KR2.out.below hb); have HB3 := Aside0.mk (below_step HB2.out hb); clear hb; obtain ⟨c0, c1, c2, c4⟩ := KI3.out.cells; obtain ⟨td, tf⟩ := KT3.out.at_ HGl.out hd0; obtain ⟨tb, tg⟩ := KT3.out.at_ HGl.out ha0)
              | (go_at_call 21; (with_reducible refine (RD.out _).mono ?_); rintro e w' ⟨rfl, ⟨nd, rfl⟩⟩)
              | (go_at_call 21; (with_reducible refine (RA.out _).mono ?_); rintro e w' ⟨rfl, ⟨nd2, rfl⟩⟩)
              | ((with_reducible refine gate_dst (N := 59) rfl ?_); refine wpList_load_row rfl 57 _ rfl w.heap.size rfl 57 (tcells R) (0, 0) _ (by rw [HRs.out]; exact KT3.out) Try.underlying57 rfl (tab_size HRl.out) ?_)
              | ((with_reducible refine gate_store (t := 57) (p := 4) rfl ?_); refine wpList_store_row rfl 57 _ _ rfl (w.heap.size + 2) (tcells R) rfl rfl 57 (tcells noes) KR3.out (tab_size HRl.out) (by rw [tcells_size, tcells_size, HRl.out]; rfl) (tcells_one R) ?_))
          exact bodyPost_ret (v := .agg (tcells R)) (results_cell_row rfl _ _ (w.heap.size + 2) 57 (tcells R) (0, 0) _ rfl (setRow_heap _ (w.heap.size + 2) _ _ 57 _ KR3.out) Try.underlying57 rfl (tab_size HRl.out)) rfl ⟨rfl, below_setRow (pw_below_drewN HB3.out _) (by omega) _⟩

end Go.Proofs.Ytolacdlobopoiaa.Num
