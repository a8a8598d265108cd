/- What the heap's functions compute, in plain words: each printed function is told as one line over lists. No condition but a bound on the lists' lengths and enough rounds. -/
import Derived.Test.YtnjnfihhhoppmaaHeap2
namespace Go.Proofs.Ytnjnfihhhoppmaa.Pure
open Go.RowKit Go.Proofs.Ytnjnfihhhoppmaa.Heap Go.Proofs.YtnjnfihhhoppmaaW.PrintWords Go.Proofs.YtnjnfihhhoppmaaW.PrintLast
set_option linter.unusedVariables false
set_option linter.unusedSimpArgs false

abbrev InR (l : List Int) (a : Int) : Prop := l.length ≤ 16 ∧ 0 ≤ a ∧ a < (l.length : Int)

theorem wrap_next {i : Int} {n : Nat} (h0 : 0 ≤ i) (h : i < (n : Int)) (hn : n ≤ 100) : wrap64 (i + 1) = i + 1 := by
  unfold wrap64
  omega

theorem right_is (l : List Int) : heap_Right.f l = some (decide (l.length ≤ 16)) := by
  unfold heap_Right.f
  congr 1
  rw [decide_eq_decide]
  omega

theorem in_is (l : List Int) (a : Int) : heap_in.f l a = some (decide (InR l a)) := by
  unfold heap_in.f
  rw [right_is]
  simp only [Option.bind_some, decide_eq_true_eq]
  unfold InR
  by_cases h1 : l.length ≤ 16
  · by_cases h2 : 0 ≤ a
    · rw [if_pos h1, if_pos (show a ≥ 0 from h2)]
      congr 1
      rw [decide_eq_decide]
      exact ⟨fun h => ⟨h1, h2, h⟩, fun h => h.2.2⟩
    · rw [if_pos h1, if_neg (show ¬ a ≥ 0 from h2)]
      congr 1
      exact (decide_eq_false (fun h => h2 h.2.1)).symm
  · rw [if_neg h1]
    congr 1
    exact (decide_eq_false (fun h => h1 h.1)).symm

theorem load_is (l : List Int) (a : Int) : heap_Load.f l a = some (if InR l a then (rd l a, 0) else (0, 4)) := by
  unfold heap_Load.f
  rw [in_is]
  simp only [Option.bind_some, decide_eq_true_eq]
  by_cases h : InR l a
  · rw [if_pos h, if_pos h, if_pos h.2.1, if_pos h.2.2]
  · rw [if_neg h, if_neg h]

theorem store_is (l : List Int) (a v : Int) : heap_Store.f l a v = some (if InR l a then (l.set a.toNat v, 0) else ([], 4)) := by
  unfold heap_Store.f
  rw [in_is]
  simp only [Option.bind_some, decide_eq_true_eq]
  by_cases h : InR l a
  · rw [if_pos h, if_pos h]
  · rw [if_neg h, if_neg h]

theorem rd_nat (l : List Int) (i : Nat) (h : i < l.length) : rd l (i : Int) = l[i] := by
  unfold rd
  simp [List.getD_eq_getElem?_getD, h]

theorem drop_eq_step (a b : List Int) (i : Nat) (ha : i < a.length) (hb : i < b.length) : (a.drop i = b.drop i) ↔ (rd a (i : Int) = rd b (i : Int) ∧ a.drop (i + 1) = b.drop (i + 1)) := by
  rw [List.drop_eq_getElem_cons ha, List.drop_eq_getElem_cons hb, rd_nat a i ha, rd_nat b i hb]
  exact ⟨fun h => List.cons.inj h, fun h => by rw [h.1, h.2]⟩

theorem same_l0 (a b : List Int) (hl : a.length = b.length) (ha : a.length ≤ 100) (d : Nat) : ∀ (k i : Nat), i ≤ a.length → a.length - i = d → d < k →
    heap_Same.l0 k a b (a.length : Int) (i : Int) = some (decide (a.drop i = b.drop i)) := by
  induction d with
  | zero =>
    intro k i h1 hd hk
    obtain ⟨k, rfl⟩ : ∃ m, k = m + 1 := ⟨k - 1, by omega⟩
    simp only [heap_Same.l0]
    rw [if_neg (by omega)]
    congr 1
    rw [List.drop_of_length_le (by omega), List.drop_of_length_le (by omega)]
    exact (decide_eq_true rfl).symm
  | succ d ih =>
    intro k i h1 hd hk
    obtain ⟨k, rfl⟩ : ∃ m, k = m + 1 := ⟨k - 1, by omega⟩
    have hi : i < a.length := by omega
    have hib : i < b.length := by omega
    have hs := drop_eq_step a b i hi hib
    simp only [heap_Same.l0]
    rw [if_pos (by omega), if_pos (by omega), if_pos (by omega), if_pos (by omega)]
    by_cases e : rd a (i : Int) = rd b (i : Int)
    · rw [if_pos e, wrap_next (n := a.length) (by omega) (by omega) ha]
      have := ih k (i + 1) (by omega) (by omega) (by omega)
      rw [show ((i : Int) + 1) = ((i + 1 : Nat) : Int) from by omega, this]
      congr 1
      rw [decide_eq_decide, hs]
      exact ⟨fun h => ⟨e, h⟩, fun h => h.2⟩
    · rw [if_neg e]
      congr 1
      exact (decide_eq_false (fun h => e (hs.mp h).1)).symm

theorem same_is (a b : List Int) (ha : a.length ≤ 100) (k : Nat) (hk : a.length < k) : heap_Same.f k a b = some (decide (a = b)) := by
  unfold heap_Same.f
  by_cases hl : a.length = b.length
  · rw [if_pos (by omega)]
    have := same_l0 a b hl ha a.length k 0 (by omega) (by omega) hk
    simpa using this
  · rw [if_neg (by omega)]
    congr 1
    exact (decide_eq_false (fun h => hl (by rw [h]))).symm

theorem knows_is (k : Nat) (hk : 4 ≤ k) : joinerylaw06_knows.f k = some true := by
  unfold joinerylaw06_knows.f
  simp only [Option.bind_some, load_is, store_is, right_is]
  rw [same_is _ _ (by decide) _ (by simp [InR]; omega)]
  decide

theorem ref_same_l0 (a b : List Int) (ha : a.length ≤ 100) (_hb : b.length ≤ 100) (d : Nat) : ∀ (k i : Nat), i ≤ a.length → i ≤ b.length → a.length - i = d → 2 * d + 1 < k →
    joineryref06_Same.l0 k a b (i : Int) = some (decide (a.length = b.length ∧ a.drop i = b.drop i)) := by
  induction d with
  | zero =>
    intro k i h1 h2 hd hk
    obtain ⟨k, rfl⟩ : ∃ m, k = m + 2 := ⟨k - 2, by omega⟩
    simp only [joineryref06_Same.l0]
    rw [if_neg (by omega)]
    simp only [joineryref06_Same.j1, Bool.false_eq_true, if_false]
    congr 1
    rw [List.drop_of_length_le (show a.length ≤ i by omega), Bool.eq_iff_iff]
    simp
    constructor
    · intro h
      exact ⟨by omega, by omega⟩
    · intro h
      omega
  | succ d ih =>
    intro k i h1 h2 hd hk
    obtain ⟨k, rfl⟩ : ∃ m, k = m + 2 := ⟨k - 2, by omega⟩
    have hi : i < a.length := by omega
    simp only [joineryref06_Same.l0]
    rw [if_pos (by omega)]
    by_cases hib : i < b.length
    · have hs := drop_eq_step a b i hi hib
      rw [decide_eq_true (show (i : Int) < (b.length : Int) by omega)]
      simp only [joineryref06_Same.j1, if_true]
      rw [if_pos (by omega), if_pos (by omega), if_pos (by omega)]
      by_cases e : rd a (i : Int) = rd b (i : Int)
      · rw [if_pos e, wrap_next (n := a.length) (by omega) (by omega) ha]
        have := ih k (i + 1) (by omega) (by omega) (by omega) (by omega)
        rw [show ((i : Int) + 1) = ((i + 1 : Nat) : Int) from by omega, this]
        congr 1
        rw [decide_eq_decide, hs]
        exact ⟨fun h => ⟨h.1, e, h.2⟩, fun h => ⟨h.1, h.2.2⟩⟩
      · rw [if_neg e]
        congr 1
        exact (decide_eq_false (fun h => e (hs.mp h.2).1)).symm
    · rw [decide_eq_false (show ¬ (i : Int) < (b.length : Int) by omega)]
      simp only [joineryref06_Same.j1, Bool.false_eq_true, if_false]
      congr 1
      rw [Bool.eq_iff_iff]
      simp
      constructor
      · intro h
        omega
      · intro h
        omega

theorem ref_same_is (a b : List Int) (ha : a.length ≤ 100) (hb : b.length ≤ 100) (k : Nat) (hk : 2 * a.length + 1 < k) : joineryref06_Same.f k a b = some (decide (a = b)) := by
  unfold joineryref06_Same.f
  have := ref_same_l0 a b ha hb a.length k 0 (by omega) (by omega) (by omega) hk
  rw [show ((0 : Int)) = ((0 : Nat) : Int) from rfl, this]
  congr 1
  rw [decide_eq_decide]
  simp
  exact fun h => by rw [h]

theorem ref_load_l0 (l : List Int) (a : Int) (hl : l.length ≤ 100) (d : Nat) : ∀ (k i : Nat), i ≤ l.length → l.length - i = d → d < k →
    joineryref06_Load.l0 k l a (i : Int) = some (if (i : Int) ≤ a ∧ a < (l.length : Int) then (rd l a, 0) else (0, 4)) := by
  induction d with
  | zero =>
    intro k i h1 hd hk
    obtain ⟨k, rfl⟩ : ∃ m, k = m + 1 := ⟨k - 1, by omega⟩
    simp only [joineryref06_Load.l0]
    rw [if_neg (by omega), if_neg (by omega)]
  | succ d ih =>
    intro k i h1 hd hk
    obtain ⟨k, rfl⟩ : ∃ m, k = m + 1 := ⟨k - 1, by omega⟩
    simp only [joineryref06_Load.l0]
    rw [if_pos (by omega)]
    by_cases e : (i : Int) = a
    · subst e
      rw [if_pos rfl, if_pos (by omega), if_pos (by omega)]
    · rw [if_neg e, wrap_next (n := l.length) (by omega) (by omega) hl]
      have := ih k (i + 1) (by omega) (by omega) (by omega)
      rw [show ((i : Int) + 1) = ((i + 1 : Nat) : Int) from by omega, this]
      by_cases c : ((i + 1 : Nat) : Int) ≤ a ∧ a < (l.length : Int)
      · rw [if_pos c, if_pos (by omega)]
      · rw [if_neg c, if_neg (by omega)]

theorem ref_load_is (l : List Int) (a : Int) (k : Nat) (hk : l.length < k ∨ 17 ≤ k) : joineryref06_Load.f k l a = some (if InR l a then (rd l a, 0) else (0, 4)) := by
  unfold joineryref06_Load.f
  by_cases h : (l.length : Int) ≤ 16
  · rw [if_pos h]
    have := ref_load_l0 l a (by omega) l.length k 0 (by omega) (by omega) (by omega)
    refine Eq.trans this ?_
    by_cases c : 0 ≤ a ∧ a < (l.length : Int)
    · rw [if_pos (by omega), if_pos (by omega)]
    · rw [if_neg (by omega), if_neg (by omega)]
  · rw [if_neg h, if_neg (by unfold InR; omega)]

theorem set_take_step (l : List Int) (j i : Nat) (v : Int) (hi : i < l.length) : (l.set j v).take (i + 1) = (l.set j v).take i ++ [if i = j then v else rd l (i : Int)] := by
  rw [List.take_succ_eq_append_getElem (by simpa using hi)]
  congr 2
  by_cases e : i = j
  · subst e; simp
  · rw [if_neg e, rd_nat l i hi, List.getElem_set_ne (fun h => e h.symm)]

theorem ref_store_l0 (l : List Int) (a v : Int) (ha : 0 ≤ a) (hl : l.length ≤ 100) (d : Nat) : ∀ (k i : Nat), i ≤ l.length → l.length - i = d → d < k →
    joineryref06_Store.l0 k l a v ((l.set a.toNat v).take i) (i : Int) = some (l.set a.toNat v, 0) := by
  induction d with
  | zero =>
    intro k i h1 hd hk
    obtain ⟨k, rfl⟩ : ∃ m, k = m + 1 := ⟨k - 1, by omega⟩
    simp only [joineryref06_Store.l0]
    rw [if_neg (by omega), List.take_of_length_le (by simp; omega)]
  | succ d ih =>
    intro k i h1 hd hk
    obtain ⟨k, rfl⟩ : ∃ m, k = m + 1 := ⟨k - 1, by omega⟩
    have hlt : ((l.set a.toNat v).take i).length < 17592186044416 := by simp; omega
    have hst := set_take_step l a.toNat i v (by omega)
    have hih := ih k (i + 1) (by omega) (by omega) (by omega)
    simp only [joineryref06_Store.l0]
    rw [if_pos (by omega)]
    by_cases e : (i : Int) = a
    · rw [if_pos e, if_pos hlt, wrap_next (n := l.length) (by omega) (by omega) hl]
      rw [if_pos (by omega)] at hst
      rw [← hst, show ((i : Int) + 1) = ((i + 1 : Nat) : Int) from by omega, hih]
    · rw [if_neg e, if_pos (by omega), if_pos hlt, wrap_next (n := l.length) (by omega) (by omega) hl]
      rw [if_neg (by omega)] at hst
      rw [← hst, show ((i : Int) + 1) = ((i + 1 : Nat) : Int) from by omega, hih]

theorem ref_store_is (l : List Int) (a v : Int) (k : Nat) (hk : 17 ≤ k) : joineryref06_Store.f k l a v = some (if InR l a then (l.set a.toNat v, 0) else ([], 4)) := by
  unfold joineryref06_Store.f
  rw [ref_load_is l a k (by omega)]
  simp only [Option.bind_some]
  by_cases h : InR l a
  · have h' := h
    obtain ⟨h1, h2, h3⟩ := h
    have := ref_store_l0 l a v h2 (by omega) l.length k 0 (by omega) (by omega) (by omega)
    simp only [List.take_zero] at this
    simp only [if_pos h', if_true]
    exact this
  · simp only [if_neg h]
    rfl

end Go.Proofs.Ytnjnfihhhoppmaa.Pure
