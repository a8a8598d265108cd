/- Sources and tables as the program has them; env.New, walked. Conditions: none. -/
import Derived.Test.YtolacdlobopoiaaNum0
import Derived.Test.YtolacdlobopoiaaNum1
import Derived.Deep.WholeRow
import Derived.Laws.CopyOwn
import Derived.Carry
namespace Go.Proofs.Ytolacdlobopoiaa.Num
open Go.RowKit Go.Proofs.YtolacdlobopoiaaW.PrintWords Go.Proofs.YtolacdlobopoiaaW.PrintLast Go.Proofs.YtolacdlobopoiaaW.PrintMore
attribute [local go_sem] max2_int min2_int max_two min_two max_three min_three max_four min_four   -- for this text's walks alone
set_option linter.unusedVariables false
set_option linter.unusedSimpArgs false

/-- A source, as the program has it: what a place had, a number, or none at all. -/
inductive Sr where
  | was (l : Int)
  | is (n : Int)
  | no
  deriving DecidableEq
def Sr.v : Sr → Value
  | .was l => .iface 47 (.agg #[.int .i64 l])
  | .is n => .iface 49 (.agg #[.int .i64 n])
  | .no => .nilIface
theorem Sr.one (s : Sr) : s.v.oneCell' = true := by cases s <;> rfl
def tcells (T : List Sr) : Array Value := (T.map Sr.v).toArray
theorem tcells_size (T : List Sr) : (tcells T).size = T.length := by simp [tcells]
theorem tcells_one (T : List Sr) : (tcells T).all (·.oneCell') = true := by
  rw [Array.all_eq_true_iff_forall_mem]
  intro v hv
  simp only [tcells, List.mem_toArray, List.mem_map] at hv
  obtain ⟨s, _, rfl⟩ := hv
  exact s.one
theorem tcells_set (T : List Sr) (i : Nat) (s : Sr) : (tcells T).setIfInBounds i s.v = tcells (T.set i s) := by
  simp [tcells, List.map_set]
theorem tcells_get (T : List Sr) (i : Nat) (h : i < T.length) : (tcells T)[i]? = some (T[i]).v := by
  simp [tcells, h]
def noes : List Sr := List.replicate 24 .no
def first : List Sr := (List.range 24).map fun i : Nat => Sr.was (i : Int)
theorem first_len : first.length = 24 := by simp [first]
theorem noes_len : noes.length = 24 := by simp [noes]
def fillTo (i : Nat) : List Sr := (List.range 24).map fun j : Nat => if j < i then Sr.was (j : Int) else Sr.no
theorem fillTo_len (i : Nat) : (fillTo i).length = 24 := by simp [fillTo]
theorem fillTo_zero : fillTo 0 = noes := by decide
theorem fillTo_all : fillTo 24 = first := by decide
theorem fillTo_set (i : Nat) (h : i < 24) : (fillTo i).set i (.was (i : Int)) = fillTo (i + 1) := by
  apply List.ext_getElem
  · simp [fillTo]
  · intro j h1 h2
    have hj : j < 24 := by simpa [fillTo] using h1
    rw [List.getElem_set]
    simp only [fillTo, List.getElem_map, List.getElem_range]
    by_cases e : i = j
    · subst e
      rw [if_pos rfl, if_pos (by omega)]
    · rw [if_neg e]
      by_cases c : j < i
      · rw [if_pos c, if_pos (by omega)]
      · rw [if_neg c, if_neg (by omega)]
theorem info57 : (Try.prog.info? 57).map (·.size) = some 24 := by kernel_rfl
/-- A block is a table. -/
def IsTab (w : World) (g : Nat) (T : List Sr) : Prop := w.heap[g]? = some (.cells (tcells T) 57 (0, 0))
theorem IsTab.cell {w : World} {g : Nat} {T : List Sr} (h : IsTab w g T) (i : Nat) (hi : i < T.length) : w.cell? ⟨g, i, none⟩ = some (T[i]).v := by
  rw [blk_cell h, tcells_get T i hi]
theorem IsTab.free {w : World} {g : Nat} {T : List Sr} (h : IsTab w g T) (i : Nat) : w.frozen? ⟨g, i, none⟩ = false := blk_frozen h i
theorem IsTab.set {w : World} {g : Nat} {T : List Sr} (h : IsTab w g T) (i : Nat) (s : Sr) : IsTab (w.setCell ⟨g, i, none⟩ s.v) g (T.set i s) := by
  have := blk_set h i s.v
  rw [tcells_set] at this
  exact this
theorem IsTab.far {w : World} {g : Nat} {T : List Sr} (h : IsTab w g T) {p : Addr} (hp : g ≠ p.block) (u : Value) : IsTab (w.setCell p u) g T := blk_far h hp u
theorem IsTab.below {w w' : World} {g : Nat} {T : List Sr} (h : IsTab w g T) (hb : Below w.heap.size w w') : IsTab w' g T := (hb.block g (blk_lt h)).trans h
/-- What New has done by the round i. -/
def NewSt (w : World) (i : Nat) (wr : World) : Prop := i ≤ 24 ∧ Below w.heap.size w wr ∧ IsTab wr w.heap.size noes ∧ IsTab wr (w.heap.size + 1) (fillTo i)
set_option maxHeartbeats 8000000 in
set_option maxRecDepth 100000 in
theorem env_New (w : World) : Calls Try.prog 40 #[] w fun e w' => e = .returned (.agg (tcells first)) ∧ Below w.heap.size w w' := by
  go_enter Try.func40, Try.ntmps40
  go_wp2
  go_loopw [3] (fun c wr => ∃ i : Nat, c = .int .i64 i ∧ Aside0 (NewSt w i wr)) (fun c _ => 24 - (intOf c).toNat)
  case atStart => exact ⟨0, rfl, ⟨⟨by omega, below_alloc (below_alloc (Below.refl _ _) _) _, heap_alloc2_old _ _ _, heap_alloc2_new _ _ _⟩⟩⟩
  case round =>
    obtain ⟨i, rfl, HS⟩ := hrel
    obtain ⟨h24, hb, hr, ht⟩ := HS.out
    by_cases hi : i < 24
    · have hc := ht.cell i (by rw [fillTo_len]; exact hi)
      have hf := ht.free i
      have hi' : (i : Int) < 24 := by omega
      obtain ⟨v, hv⟩ : ∃ v, v = ((fillTo i)[i]'(by rw [fillTo_len]; exact hi)).v := ⟨_, rfl⟩
      rw [← hv] at hc
      clear hv HS
      have HT := Aside0.mk ht
      have HR := Aside0.mk hr
      have HB := Aside0.mk hb
      clear ht hr hb
      go_wp2
      go_roundw
      case rel => exact ⟨i + 1, by go_num, ⟨⟨by omega, HB.out.setCell (by simp) _, HR.out.far (by simp) _, by rw [← fillTo_set i hi]; exact HT.out.set i (.was (i : Int))⟩⟩⟩
      case measure => simp [intOf]; omega
    · obtain rfl : i = 24 := by omega
      rw [fillTo_all] at ht
      have HT := Aside0.mk ht
      have HR := Aside0.mk hr
      have HB := Aside0.mk hb
      clear ht hr hb HS
      go_wp2_with (first
        | ((with_reducible refine gate_dst (N := 12) rfl ?_); refine wpList_load_row rfl 57 _ rfl (w.heap.size + 1) rfl 57 (tcells first) (0, 0) _ HT.out Try.underlying57 rfl info57 ?_)
        | ((with_reducible refine gate_store (t := 57) (p := 0) rfl ?_); refine wpList_store_row rfl 57 _ _ rfl w.heap.size (tcells first) rfl rfl 57 (tcells noes) HR.out info57 rfl (tcells_one first) ?_))
      have hres : (wr.setRow w.heap.size (tcells first)).heap[w.heap.size]? = some (.cells (tcells first) 57 (0, 0)) := setRow_heap wr w.heap.size _ _ 57 _ HR.out
      exact bodyPost_ret (v := .agg (tcells first)) (results_cell_row rfl _ _ w.heap.size 57 (tcells first) (0, 0) _ rfl hres Try.underlying57 rfl info57) rfl ⟨rfl, below_setRow HB.out (Nat.le_refl _) _⟩

end Go.Proofs.Ytolacdlobopoiaa.Num
