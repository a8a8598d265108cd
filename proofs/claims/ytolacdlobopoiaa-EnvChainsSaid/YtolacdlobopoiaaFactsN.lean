/- What num's texts are, in plain words: the digits of a number, and what a text is read as. No condition but enough rounds. -/
import Derived.Test.YtolacdlobopoiaaNum6
import Derived.Test.YtolacdlobopoiaaFactsL
namespace Go.Proofs.Ytolacdlobopoiaa.Pure
open Go.RowKit Go.Proofs.Ytolacdlobopoiaa.Num Go.Proofs.YtolacdlobopoiaaW.PrintWords Go.Proofs.YtolacdlobopoiaaW.PrintLast
set_option linter.unusedVariables false
set_option linter.unusedSimpArgs false

/-- The digits of a number, the first one first. -/
def dec (n : Nat) : List Int := if h : n < 10 then [48 + (n : Int)] else dec (n / 10) ++ [48 + ((n % 10 : Nat) : Int)]
termination_by n
decreasing_by omega
theorem dec_small {n : Nat} (h : n < 10) : dec n = [48 + (n : Int)] := by rw [dec]; simp [h]
theorem dec_step {n : Nat} (h : ¬ n < 10) : dec n = dec (n / 10) ++ [48 + ((n % 10 : Nat) : Int)] := by rw [dec]; simp [h]
/-- A number's text. -/
def tx (n : Int) : ByteArray := strOfNums (if n < 0 then 45 :: dec n.natAbs else dec n.natAbs)

theorem dec_digits (n : Nat) : ∀ c ∈ dec n, 48 ≤ c ∧ c ≤ 57 := by
  induction n using Nat.strongRecOn with
  | _ n ih =>
    intro c hc
    by_cases h : n < 10
    · rw [dec_small h] at hc
      simp at hc
      omega
    · rw [dec_step h] at hc
      simp only [List.mem_append, List.mem_singleton] at hc
      rcases hc with hc | hc
      · exact ih (n / 10) (by omega) c hc
      · omega
theorem dec_pos (n : Nat) : 0 < (dec n).length := by
  by_cases h : n < 10
  · rw [dec_small h]; simp
  · rw [dec_step h]; simp
theorem dec_len (d : Nat) : ∀ n : Nat, n < 10 ^ (d + 1) → (dec n).length ≤ d + 1 := by
  induction d with
  | zero =>
    intro n h
    rw [dec_small (by simpa using h)]
    simp
  | succ d ih =>
    intro n h
    by_cases h10 : n < 10
    · rw [dec_small h10]; simp
    · rw [dec_step h10]
      have h1 : n / 10 < 10 ^ (d + 1) := by
        rw [Nat.pow_succ] at h
        exact Nat.div_lt_of_lt_mul (by omega)
      have := ih (n / 10) h1
      simp
      omega
theorem dec_20 (n : Nat) (h : n ≤ 18446744073709551615) : (dec n).length ≤ 20 := dec_len 19 n (by
  have : (10 : Nat) ^ (19 + 1) = 100000000000000000000 := by decide
  omega)
theorem str_append (a b : List Int) : strOfNums (a ++ b) = strOfNums a ++ strOfNums b := by
  apply bytes_eq
  rw [strOfNums_data, ByteArray.data_append, Array.toList_append, strOfNums_data, strOfNums_data, List.map_append]
theorem str_size (a : List Int) : (strOfNums a).size = a.length := strOfNums_size a

theorem ref_digits (d : Nat) : ∀ (n k : Nat), n ≤ 9223372036854775808 → n < 10 ^ (d + 1) → d < k → joineryref01_digits.f k (-(n : Int)) = some (strOfNums (dec n)) := by
  induction d with
  | zero =>
    intro n k hn h hk
    obtain ⟨k, rfl⟩ : ∃ m, k = m + 1 := ⟨k - 1, by omega⟩
    have h10 : n < 10 := by simpa using h
    simp only [joineryref01_digits.f, Option.bind_some]
    rw [if_pos (by omega), dec_small h10]
    congr 3
    have e : Int.tmod (-(n : Int)) 10 = -(n : Int) := by rw [Int.neg_tmod, Int.tmod_eq_emod_of_nonneg (by omega)]; omega
    rw [e]
    unfold wrap64
    omega
  | succ d ih =>
    intro n k hn h hk
    obtain ⟨k, rfl⟩ : ∃ m, k = m + 1 := ⟨k - 1, by omega⟩
    have e : Int.tmod (-(n : Int)) 10 = -((n % 10 : Nat) : Int) := by rw [Int.neg_tmod, Int.tmod_eq_emod_of_nonneg (by omega)]; omega
    have e2 : Int.tdiv (-(n : Int)) 10 = -((n / 10 : Nat) : Int) := by rw [Int.neg_tdiv, Int.tdiv_eq_ediv_of_nonneg (by omega)]; omega
    have e3 : (wrap64 (48 - -((n % 10 : Nat) : Int))) % 256 = 48 + ((n % 10 : Nat) : Int) := by unfold wrap64; omega
    simp only [joineryref01_digits.f, Option.bind_some, e, e2, e3]
    by_cases h10 : n < 10
    · rw [if_pos (by omega), dec_small h10]
      congr 4
      omega
    · rw [if_neg (by omega)]
      have h1 : n / 10 < 10 ^ (d + 1) := by
        rw [Nat.pow_succ] at h
        exact Nat.div_lt_of_lt_mul (by omega)
      have hw : wrap64 (-((n / 10 : Nat) : Int)) = -((n / 10 : Nat) : Int) := by unfold wrap64; omega
      rw [hw, ih (n / 10) k (by omega) h1 (by omega)]
      have hl := dec_20 (n / 10) (by omega)
      simp only [Option.bind_some, str_size]
      rw [if_pos (by simp; omega), ← str_append, ← dec_step h10]
theorem ref_digits_is (n k : Nat) (hn : n ≤ 9223372036854775808) (hk : 20 ≤ k) : joineryref01_digits.f k (-(n : Int)) = some (strOfNums (dec n)) :=
  ref_digits 19 n k hn (by have : (10 : Nat) ^ (19 + 1) = 100000000000000000000 := by decide
                           omega) (by omega)
/-- A number of 64 bits. -/
def W64 (n : Int) : Prop := -9223372036854775808 ≤ n ∧ n ≤ 9223372036854775807
theorem w64_of {n : Int} (h : (Lit.int .i64 n).wf = true) : W64 n := by
  simp [Lit.wf, IntKind.min, IntKind.max, IntKind.signed, IntKind.bits] at h
  exact h
theorem w64_wrap (n : Int) : W64 (wrap64 n) := by unfold W64 wrap64; omega
theorem w64_self {n : Int} (h : W64 n) : wrap64 n = n := by unfold W64 at h; unfold wrap64; omega
theorem ref_text_is (n : Int) (hn : W64 n) (k : Nat) (hk : 20 ≤ k) : joineryref01_Text.f k n = some (tx n) := by
  unfold W64 at hn
  unfold joineryref01_Text.f tx
  by_cases h : n < 0
  · rw [if_pos h, if_pos h]
    have e : n = -(n.natAbs : Int) := by omega
    have := ref_digits_is n.natAbs k (by omega) hk
    rw [← e] at this
    rw [this]
    have hl := dec_20 n.natAbs (by omega)
    simp only [Option.bind_some, str_size]
    rw [if_pos (by omega)]
    rw [show (⟨#[45]⟩ : ByteArray) = strOfNums [45] from rfl, ← str_append]
    rfl
  · rw [if_neg h, if_neg h]
    have e : wrap64 (-n) = -(n.natAbs : Int) := by unfold wrap64; omega
    rw [e, ref_digits_is n.natAbs k (by omega) hk]
    rfl

theorem num_text_l0 (x0 : Int) (u : Nat) : ∀ (k : Nat) (tail : List Int), u ≤ 9223372036854775808 → tail.length + (dec u).length ≤ 100 →
    num_Text.l0 (k + (dec u).length) x0 (u : Int) tail true = num_Text.l0 k x0 0 (tail ++ (dec u).reverse) false := by
  induction u using Nat.strongRecOn with
  | _ u ih =>
    intro k tail hu hd
    have e1 : Int.tdiv (u : Int) 10 = ((u / 10 : Nat) : Int) := by rw [Int.tdiv_eq_ediv_of_nonneg (by omega)]; omega
    have e2 : Int.tmod (u : Int) 10 = ((u % 10 : Nat) : Int) := by rw [Int.tmod_eq_emod_of_nonneg (by omega)]; omega
    have e3 : IntKind.u64.wrap ((u / 10 : Nat) : Int) = ((u / 10 : Nat) : Int) := by rw [IntKind.wrap_u64]; omega
    have e4 : (IntKind.u64.wrap (48 + ((u % 10 : Nat) : Int))) % 256 = 48 + ((u % 10 : Nat) : Int) := by rw [IntKind.wrap_u64]; omega
    by_cases h10 : u < 10
    · rw [dec_small h10] at hd ⊢
      simp only [List.length_singleton] at hd
      simp only [List.length_singleton, num_Text.l0, if_true, e1, e2, e3, e4]
      rw [if_pos (by omega)]
      rw [show ((u / 10 : Nat) : Int) = 0 by omega, show ((u % 10 : Nat) : Int) = (u : Int) by omega]
      rfl
    · have hd' := hd
      rw [dec_step h10] at hd ⊢
      simp only [List.length_append, List.length_singleton] at hd
      simp only [List.length_append, List.length_singleton, List.reverse_append, List.reverse_singleton]
      rw [show k + ((dec (u / 10)).length + 1) = (k + (dec (u / 10)).length) + 1 by omega]
      simp only [num_Text.l0, if_true, e1, e2, e3, e4]
      rw [if_pos (by omega), decide_eq_true (by omega)]
      rw [ih (u / 10) (by omega) k (tail ++ [48 + ((u % 10 : Nat) : Int)]) (by omega) (by simp; omega)]
      simp
theorem rep_set (m : Nat) (R : List Int) (v : Int) : (List.replicate (m + 1) 0 ++ R).set m v = List.replicate m 0 ++ (v :: R) := by
  induction m with
  | zero => simp
  | succ m ih =>
    rw [List.replicate_succ, List.cons_append, List.set_cons_succ, ih, List.replicate_succ, List.cons_append]
theorem num_text_l1 (t : List Int) (ht : t.length ≤ 100) (d : Nat) : ∀ (k i : Nat), i ≤ t.length → t.length - i = d → d < k →
    num_Text.l1 k t (List.replicate (t.length - i) 0 ++ (t.take i).reverse) t (t.length : Int) (i : Int) = some (strOfNums t.reverse) := by
  induction d with
  | zero =>
    intro k i h1 hd hk
    obtain ⟨k, rfl⟩ : ∃ m, k = m + 1 := ⟨k - 1, by omega⟩
    simp only [num_Text.l1]
    rw [if_neg (by omega)]
    rw [show t.length - i = 0 by omega, List.take_of_length_le (by omega)]
    simp
  | succ d ih =>
    intro k i h1 hd hk
    obtain ⟨k, rfl⟩ : ∃ m, k = m + 1 := ⟨k - 1, by omega⟩
    have hi : i < t.length := by omega
    have e1 : wrap64 ((wrap64 ((t.length : Int) - 1)) - (i : Int)) = ((t.length - i - 1 : Nat) : Int) := by unfold wrap64; omega
    have e2 : wrap64 ((i : Int) + 1) = ((i + 1 : Nat) : Int) := by unfold wrap64; omega
    have hlen : (List.replicate (t.length - i) (0 : Int) ++ (t.take i).reverse).length = t.length := by simp; omega
    simp only [num_Text.l1, e1, e2]
    rw [if_pos (by omega), if_pos (by omega), if_pos (by omega), if_pos (by omega), if_pos (by rw [hlen]; omega)]
    have hv : rd t (i : Int) = t[i] := by unfold rd; simp [List.getD_eq_getElem?_getD, hi]
    have hs : (List.replicate (t.length - i) (0 : Int) ++ (t.take i).reverse).set ((t.length - i - 1 : Nat) : Int).toNat (rd t (i : Int)) = List.replicate (t.length - (i + 1)) 0 ++ (t.take (i + 1)).reverse := by
      rw [Int.toNat_natCast, hv]
      have hr := rep_set (t.length - i - 1) (t.take i).reverse t[i]
      rw [show t.length - i - 1 + 1 = t.length - i by omega] at hr
      rw [hr, List.take_succ_eq_append_getElem hi, List.reverse_append]
      rfl
    rw [hs]
    exact ih k (i + 1) (by omega) (by omega) (by omega)
theorem num_text_j2 (t : List Int) (ht : t.length ≤ 100) (k : Nat) (hk : 102 ≤ k) : num_Text.j2 k t = some (strOfNums t.reverse) := by
  obtain ⟨k, rfl⟩ : ∃ m, k = m + 1 := ⟨k - 1, by omega⟩
  simp only [num_Text.j2]
  rw [if_pos (by omega), if_pos (by omega)]
  have := num_text_l1 t ht t.length k 0 (by omega) (by omega) (by omega)
  simpa using this
theorem num_text_is (n : Int) (hn : W64 n) : num_Text.f 200 n = some (tx n) := by
  unfold W64 at hn
  unfold num_Text.f tx
  have hl := dec_20 n.natAbs (by omega)
  have hl0 := num_text_l0 n n.natAbs (199 - (dec n.natAbs).length) [] (by omega) (by simp; omega)
  rw [show 199 - (dec n.natAbs).length + (dec n.natAbs).length = 199 by omega] at hl0
  by_cases h : n < 0
  · have e : IntKind.u64.wrap (-(IntKind.u64.wrap n)) = (n.natAbs : Int) := by rw [IntKind.wrap_u64, IntKind.wrap_u64]; omega
    rw [if_pos h, if_pos h, e]
    simp only [num_Text.j0]
    rw [hl0]
    obtain ⟨m, hm⟩ : ∃ m, 199 - (dec n.natAbs).length = m + 1 := ⟨198 - (dec n.natAbs).length, by omega⟩
    rw [hm]
    simp only [num_Text.l0, Bool.false_eq_true, if_false, if_pos h, List.nil_append]
    rw [if_pos (by simp; omega), num_text_j2 _ (by simp; omega) m (by omega)]
    simp
  · have e : IntKind.u64.wrap n = (n.natAbs : Int) := by rw [IntKind.wrap_u64]; omega
    rw [if_neg h, if_neg h, e]
    simp only [num_Text.j0]
    rw [hl0]
    obtain ⟨m, hm⟩ : ∃ m, 199 - (dec n.natAbs).length = m + 1 := ⟨198 - (dec n.natAbs).length, by omega⟩
    rw [hm]
    simp only [num_Text.l0, Bool.false_eq_true, if_false, if_neg h, List.nil_append]
    rw [num_text_j2 _ (by simp; omega) m (by omega)]
    simp
theorem num_text_ge (n : Int) (hn : W64 n) (k : Nat) (hk : 200 ≤ k) : num_Text.f k n = some (tx n) :=
  at_rounds (g := fun k => num_Text.f k n) (num_Text.mono n) hk (num_text_is n hn)

/-- The number that digits make. -/
def dvl (l : List Int) : Int := l.foldl (fun u c => u * 10 + (c - 48)) 0
theorem dvl_snoc (l : List Int) (c : Int) : dvl (l ++ [c]) = dvl l * 10 + (c - 48) := by unfold dvl; rw [List.foldl_append]; rfl
theorem dvl_dec (m : Nat) : dvl (dec m) = m := by
  induction m using Nat.strongRecOn with
  | _ m ih =>
    by_cases h : m < 10
    · rw [dec_small h]
      simp [dvl]
      omega
    · rw [dec_step h, dvl_snoc, ih (m / 10) (by omega)]
      omega
theorem rd_cons (a : Int) (l : List Int) : rd (a :: l) 0 = a := rfl
theorem rd_app (l r : List Int) (h : 0 < l.length) : rd (l ++ r) 0 = rd l 0 := by
  cases l with
  | nil => simp at h
  | cons a l => rfl
theorem dec_head (m : Nat) (h : 1 ≤ m) : rd (dec m) 0 ≠ 48 := by
  induction m using Nat.strongRecOn with
  | _ m ih =>
    by_cases h10 : m < 10
    · rw [dec_small h10, rd_cons]
      omega
    · rw [dec_step h10, rd_app _ _ (dec_pos _)]
      exact ih (m / 10) (by omega) (by omega)
theorem bytes_str (l : List Int) (h : ∀ c ∈ l, 0 ≤ c ∧ c ≤ 255) : bytesOf (strOfNums l) = l := by
  unfold bytesOf
  rw [strOfNums_data, List.map_map]
  conv => rhs; rw [← List.map_id l]
  apply List.map_congr_left
  intro c hc
  have := h c hc
  simp
  omega
theorem bt_str (l : List Int) (h : ∀ c ∈ l, 0 ≤ c ∧ c ≤ 255) (i : Int) : bt (strOfNums l) i = rd l i := by
  rw [← rd_bytesOf, bytes_str l h]
theorem dv_eq (t : ByteArray) (n : Nat) (h : n ≤ t.size) : dv t n = dvl ((bytesOf t).take n) := by
  induction n with
  | zero => simp [dv, dvl]
  | succ n ih =>
    have hl : n < (bytesOf t).length := by rw [bytesOf_length]; omega
    rw [List.take_succ_eq_append_getElem hl, dvl_snoc, ← ih (by omega)]
    have : bt t (n : Int) = (bytesOf t)[n] := by rw [← rd_bytesOf]; unfold rd; simp [List.getD_eq_getElem?_getD, hl]
    rw [← this]
    rfl
theorem dv_all (t : ByteArray) : dv t t.size = dvl (bytesOf t) := by
  rw [dv_eq t t.size (Nat.le_refl _), List.take_of_length_le (by rw [bytesOf_length]; omega)]
theorem digs_all (t : ByteArray) (h : ∀ c ∈ bytesOf t, 48 ≤ c ∧ c ≤ 57) : DigsOk t t.size := by
  intro i hi
  have hl : i < (bytesOf t).length := by rw [bytesOf_length]; exact hi
  have : bt t (i : Int) = (bytesOf t)[i] := by rw [← rd_bytesOf]; unfold rd; simp [List.getD_eq_getElem?_getD, hl]
  rw [this]
  exact h _ (List.getElem_mem hl)
theorem digs_mem (t : ByteArray) (h : DigsOk t t.size) : ∀ c ∈ bytesOf t, 48 ≤ c ∧ c ≤ 57 := by
  intro c hc
  obtain ⟨i, hi, rfl⟩ := List.mem_iff_getElem.mp hc
  have hs : i < t.size := by rw [bytesOf_length] at hi; exact hi
  have : bt t (i : Int) = (bytesOf t)[i] := by rw [← rd_bytesOf]; unfold rd; simp [List.getD_eq_getElem?_getD, hi]
  rw [← this]
  exact h i hs
theorem dvl_nonneg (n : Nat) : ∀ l : List Int, l.length = n → (∀ c ∈ l, 48 ≤ c ∧ c ≤ 57) → 0 ≤ dvl l ∧ (0 < l.length → rd l 0 ≠ 48 → 1 ≤ dvl l) := by
  induction n with
  | zero =>
    intro l hl _
    have : l = [] := List.length_eq_zero_iff.mp hl
    subst this
    exact ⟨by simp [dvl], fun h => by simp at h⟩
  | succ n ih =>
    intro l hl hd
    have hne : l ≠ [] := fun e => by rw [e] at hl; simp at hl
    have hsp := List.dropLast_concat_getLast hne
    have hl' : l.dropLast.length = n := by simp [hl]
    have hd' : ∀ c ∈ l.dropLast, 48 ≤ c ∧ c ≤ 57 := fun c hc => hd c (List.dropLast_subset _ hc)
    have hc := hd (l.getLast hne) (List.getLast_mem hne)
    obtain ⟨h0, h1⟩ := ih l.dropLast hl' hd'
    rw [← hsp, dvl_snoc]
    refine ⟨by omega, fun _ hz => ?_⟩
    by_cases hp : 0 < l.dropLast.length
    · rw [rd_app _ _ hp] at hz
      have := h1 hp hz
      omega
    · have e : l.dropLast = [] := List.length_eq_zero_iff.mp (by omega)
      rw [e] at hz ⊢
      simp only [List.nil_append, rd_cons] at hz
      simp [dvl]
      omega
theorem canon (n : Nat) : ∀ l : List Int, l.length = n + 1 → (∀ c ∈ l, 48 ≤ c ∧ c ≤ 57) → (rd l 0 ≠ 48 ∨ l.length = 1) → dec (dvl l).toNat = l := by
  induction n with
  | zero =>
    intro l hl hd _
    match l, hl with
    | [c], _ =>
      have := hd c (by simp)
      have e : dvl [c] = c - 48 := by simp [dvl]
      rw [e, dec_small (by omega)]
      congr 1
      omega
  | succ n ih =>
    intro l hl hd hz
    have hne : l ≠ [] := fun e => by rw [e] at hl; simp at hl
    have hsp := List.dropLast_concat_getLast hne
    have hl' : l.dropLast.length = n + 1 := by simp [hl]
    have hd' : ∀ c ∈ l.dropLast, 48 ≤ c ∧ c ≤ 57 := fun c hc => hd c (List.dropLast_subset _ hc)
    have hc := hd (l.getLast hne) (List.getLast_mem hne)
    have hz' : rd l.dropLast 0 ≠ 48 := by
      rcases hz with hz | hz
      · rw [← hsp, rd_app _ _ (by omega)] at hz
        exact hz
      · omega
    have hp := (dvl_nonneg (n + 1) l.dropLast hl' hd').2 (by omega) hz'
    have hr := ih l.dropLast hl' hd' (.inl hz')
    have e : dvl l = dvl l.dropLast * 10 + (l.getLast hne - 48) := by
      conv => lhs; rw [← hsp]
      exact dvl_snoc _ _
    have e1 : (dvl l).toNat / 10 = (dvl l.dropLast).toNat := by omega
    have e2 : 48 + (((dvl l).toNat % 10 : Nat) : Int) = l.getLast hne := by omega
    rw [dec_step (by omega), e1, e2, hr]
    exact hsp

theorem low_of (l : List Int) (h : ∀ c ∈ l, 0 ≤ c ∧ c ≤ 255) : isLow (strOfNums (45 :: l)) = true := by
  unfold isLow
  refine decide_eq_true ⟨by rw [str_size]; simp, ?_⟩
  rw [bt_str _ (by intro c hc; simp at hc; rcases hc with rfl | hc; · omega
                   · exact h c hc)]
  rfl
theorem digs_of (l : List Int) (h : ∀ c ∈ l, 0 ≤ c ∧ c ≤ 255) : digs (strOfNums (45 :: l)) = strOfNums l := by
  unfold digs
  rw [if_pos (low_of l h)]
  apply bytes_eq
  rw [ByteArray.data_extract, Array.toList_extract, strOfNums_data, strOfNums_data, str_size]
  simp [List.take_of_length_le]
theorem not_low (l : List Int) (h : ∀ c ∈ l, 48 ≤ c ∧ c ≤ 57) : isLow (strOfNums l) = false := by
  unfold isLow
  refine decide_eq_false (fun hb => ?_)
  rw [str_size, bt_str _ (fun c hc => by have := h c hc; omega)] at hb
  cases l with
  | nil => simp at hb
  | cons c l =>
    have := h c (by simp)
    rw [rd_cons] at hb
    omega
theorem parse_tx (n : Int) (hn : W64 n) : num_Parse.num (tx n) = some n := by
  unfold W64 at hn
  have hd := dec_digits n.natAbs
  have hb : ∀ c ∈ dec n.natAbs, 0 ≤ c ∧ c ≤ 255 := fun c hc => by have := hd c hc; omega
  have hp := dec_pos n.natAbs
  have h19 : (dec n.natAbs).length ≤ 19 := dec_len 18 n.natAbs (by
    have : (10 : Nat) ^ (18 + 1) = 10000000000000000000 := by decide
    omega)
  have hdv : dv (strOfNums (dec n.natAbs)) (strOfNums (dec n.natAbs)).size = n.natAbs := by rw [dv_all, bytes_str _ hb, dvl_dec]
  have hok : DigsOk (strOfNums (dec n.natAbs)) (strOfNums (dec n.natAbs)).size := digs_all _ (by rw [bytes_str _ hb]; exact hd)
  unfold num_Parse.num tx
  by_cases h : n < 0
  · rw [if_pos h, low_of _ hb, digs_of _ hb]
    have hz := dec_head n.natAbs (by omega)
    rw [num_Parse.some_low ?_ hok, hdv, if_pos (by unfold top63; omega)]
    · congr 1
      omega
    · intro hbad
      unfold num_Parse.Bad at hbad
      rw [str_size, bt_str _ hb] at hbad
      rcases hbad with hbad | hbad | hbad
      · omega
      · omega
      · exact hz hbad.1
  · rw [if_neg h]
    have hnl := not_low _ hd
    have hdg : digs (strOfNums (dec n.natAbs)) = strOfNums (dec n.natAbs) := by unfold digs; rw [hnl]; rfl
    rw [hnl, hdg, num_Parse.some_up ?_ hok, hdv, if_pos (by unfold top63; omega)]
    · congr 1
      omega
    · intro hbad
      unfold num_Parse.Bad at hbad
      rw [str_size, bt_str _ hb] at hbad
      rcases hbad with hbad | hbad | ⟨hbad, hb2 | hb2⟩
      · omega
      · omega
      · have hz : ¬ 1 ≤ n.natAbs := fun h1 => dec_head _ h1 hbad
        rw [dec_small (by omega)] at hb2
        simp at hb2
      · cases hb2
/-- What is read has just that text. -/
theorem sized_back {t : ByteArray} {low : Bool} {n : Int} (h : num_Parse.sized t low = some n) : DigsOk t t.size ∧ ¬ num_Parse.Bad t low ∧ t = strOfNums (dec (dv t t.size).toNat) ∧ 0 ≤ dv t t.size ∧
    (low = true → n = -(dv t t.size) ∧ dv t t.size ≤ top63 + 1 ∧ 1 ≤ dv t t.size) ∧ (low = false → n = dv t t.size ∧ dv t t.size ≤ top63) := by
  have hbad : ¬ num_Parse.Bad t low := by
    intro hb
    unfold num_Parse.Bad at hb
    rw [num_Parse.none_size hb] at h
    cases h
  have hok : DigsOk t t.size := by
    apply Classical.byContradiction
    intro hok
    unfold num_Parse.sized at h
    unfold num_Parse.Bad at hbad
    rw [if_neg hbad, if_neg hok] at h
    cases h
  have hm := digs_mem t hok
  have hsz : (bytesOf t).length = t.size := bytesOf_length t
  have hb0 : rd (bytesOf t) 0 = bt t 0 := rd_bytesOf t 0
  have hnn := dvl_nonneg _ (bytesOf t) rfl hm
  unfold num_Parse.Bad at hbad
  have hcan : t = strOfNums (dec (dv t t.size).toNat) := by
    rw [dv_all, canon (t.size - 1) (bytesOf t) (by omega) hm, str_bytes]
    by_cases e : t.size = 1
    · right; omega
    · left
      rw [hb0]
      intro e2
      exact hbad (.inr (.inr ⟨e2, .inl (by omega)⟩))
  refine ⟨hok, hbad, hcan, by rw [dv_all]; exact hnn.1, ?_, ?_⟩
  · rintro rfl
    rw [num_Parse.some_low hbad hok] at h
    split at h
    · rename_i hle
      have := Option.some.inj h
      refine ⟨this.symm, hle, ?_⟩
      rw [dv_all]
      refine hnn.2 (by omega) ?_
      rw [hb0]
      intro e2
      exact hbad (.inr (.inr ⟨e2, .inr rfl⟩))
    · cases h
  · rintro rfl
    rw [num_Parse.some_up hbad hok] at h
    split at h
    · rename_i hle
      exact ⟨(Option.some.inj h).symm, hle⟩
    · cases h
theorem low_split {s : ByteArray} (h : isLow s = true) : s = strOfNums (45 :: bytesOf (digs s)) ∧ s.size = (digs s).size + 1 := by
  have h' := h
  unfold isLow at h'
  obtain ⟨h0, h1⟩ := of_decide_eq_true h'
  have e : digs s = s.extract 1 s.size := by unfold digs; rw [if_pos h]
  have hb0 := rd_bytesOf s 0
  have hl := bytesOf_length s
  have hx : bytesOf (s.extract 1 s.size) = (bytesOf s).drop 1 := by
    unfold bytesOf
    rw [ByteArray.data_extract, Array.toList_extract, ← List.map_drop]
    congr 1
    rw [List.extract_eq_take_drop, List.take_of_length_le]
    rw [List.length_drop, data_length]
    omega
  refine ⟨?_, by rw [e]; simp; omega⟩
  rw [e, hx]
  conv => lhs; rw [← str_bytes s]
  congr 1
  cases hb : bytesOf s with
  | nil => rw [hb] at hl; simp at hl; omega
  | cons a l =>
    rw [hb, rd_cons, h1] at hb0
    rw [hb0]
    rfl
theorem parse_some {s : ByteArray} {n : Int} (h : num_Parse.num s = some n) : W64 n ∧ s = tx n := by
  unfold num_Parse.num at h
  obtain ⟨hok, hbad, hcan, h0, h1, h2⟩ := sized_back h
  cases hl : isLow s with
  | true =>
    obtain ⟨rfl, hle, hge⟩ := h1 hl
    unfold top63 at hle
    refine ⟨by unfold W64; omega, ?_⟩
    obtain ⟨e, _⟩ := low_split hl
    unfold tx
    rw [if_pos (by omega)]
    have e2 : (-(dv (digs s) (digs s).size)).natAbs = (dv (digs s) (digs s).size).toNat := by omega
    rw [e2]
    have hm := dec_digits (dv (digs s) (digs s).size).toNat
    have e3 : bytesOf (digs s) = dec (dv (digs s) (digs s).size).toNat := by
      conv => lhs; rw [hcan]
      exact bytes_str _ (fun c hc => by have := hm c hc; omega)
    rw [← e3]
    exact e
  | false =>
    obtain ⟨rfl, hle⟩ := h2 hl
    unfold top63 at hle
    refine ⟨by unfold W64; omega, ?_⟩
    have hdg : digs s = s := by unfold digs; rw [hl]; rfl
    unfold tx
    rw [if_neg (by omega)]
    have e2 : (dv (digs s) (digs s).size).natAbs = (dv (digs s) (digs s).size).toNat := by omega
    rw [e2]
    rw [← hcan]
    exact hdg.symm
theorem parse_iff (s : ByteArray) (n : Int) (hn : W64 n) : tx n = s ↔ num_Parse.num s = some n :=
  ⟨fun h => by rw [← h]; exact parse_tx n hn, fun h => (parse_some h).2.symm⟩


/-- The reference's reader: what it comes to, whatever the text: nothing, or a number whose text this is. -/
theorem ref_l0_any (s : ByteArray) (i0 : Int) (hs : s.size ≤ 20) (d : Nat) : ∀ (k : Nat) (x : Int) (p : Nat), p ≤ s.size → s.size - p = d → d + 21 ≤ k → W64 x →
    ∃ r, joineryref01_Parse.l0 k s i0 x (p : Int) = some r ∧ (r = (0, false) ∨ ∃ n, W64 n ∧ tx n = s ∧ r = (n, true)) := by
  induction d with
  | zero =>
    intro k x p h1 hd hk hx
    obtain ⟨k, rfl⟩ : ∃ m, k = m + 1 := ⟨k - 1, by omega⟩
    simp only [joineryref01_Parse.l0]
    rw [if_neg (by omega)]
    by_cases c : i0 = 0
    · rw [if_pos c, ref_text_is _ (w64_wrap _) k (by omega)]
      simp only [Option.bind_some]
      by_cases e : (tx (wrap64 (-x))).toList = s.toList
      · rw [if_pos e]
        exact ⟨_, rfl, .inr ⟨_, w64_wrap _, (toList_iff _ _).mp e, rfl⟩⟩
      · rw [if_neg e]
        exact ⟨_, rfl, .inl rfl⟩
    · rw [if_neg c, ref_text_is _ hx k (by omega)]
      simp only [Option.bind_some]
      by_cases e : (tx x).toList = s.toList
      · rw [if_pos e]
        exact ⟨_, rfl, .inr ⟨_, hx, (toList_iff _ _).mp e, rfl⟩⟩
      · rw [if_neg e]
        exact ⟨_, rfl, .inl rfl⟩
  | succ d ih =>
    intro k x p h1 hd hk hx
    obtain ⟨k, rfl⟩ : ∃ m, k = m + 1 := ⟨k - 1, by omega⟩
    simp only [joineryref01_Parse.l0]
    rw [if_pos (by omega), if_pos (by omega)]
    by_cases c1 : bt s p < 48
    · rw [if_pos c1]
      exact ⟨_, rfl, .inl rfl⟩
    · rw [if_neg c1]
      by_cases c2 : bt s p > 57
      · rw [if_pos c2]
        exact ⟨_, rfl, .inl rfl⟩
      · rw [if_neg c2]
        have hw : wrap64 ((p : Int) + 1) = ((p + 1 : Nat) : Int) := by unfold wrap64; omega
        rw [hw]
        exact ih k _ (p + 1) (by omega) (by omega) (by omega) (w64_wrap _)
theorem ref_l0_exact (s t : ByteArray) (o : Nat) (hs : s.size ≤ 20) (ho : s.size = t.size + o) (hb : ∀ j : Nat, j < t.size → bt s ((o + j : Nat) : Int) = bt t j) (hok : DigsOk t t.size) (hv : dv t t.size ≤ 9223372036854775808) (k : Nat) (d : Nat) : ∀ (j : Nat), j ≤ t.size → t.size - j = d →
    joineryref01_Parse.l0 (k + d) s (o : Int) (-(dv t j)) ((o + j : Nat) : Int) = joineryref01_Parse.l0 k s (o : Int) (-(dv t t.size)) ((o + t.size : Nat) : Int) := by
  induction d with
  | zero =>
    intro j h1 hd
    obtain rfl : j = t.size := by omega
    rfl
  | succ d ih =>
    intro j h1 hd
    have hlt : j < t.size := by omega
    have hc := hok j hlt
    have hbj := hb j hlt
    have hd0 := dv_bound t j (fun i hi => hok i (by omega))
    have hmono : ∀ e : Nat, j + 1 + e ≤ t.size → dv t (j + 1) ≤ dv t (j + 1 + e) := by
      intro e
      induction e with
      | zero => intro _; exact Int.le_refl _
      | succ e ihe =>
        intro he
        have h1 := ihe (by omega)
        have h2 := hok (j + 1 + e) (by omega)
        have h3 := dv_bound t (j + 1 + e) (fun i hi => hok i (by omega))
        have h4 : dv t (j + 1 + (e + 1)) = dv t (j + 1 + e) * 10 + (bt t ((j + 1 + e : Nat) : Int) - 48) := rfl
        omega
    have hle := hmono (t.size - (j + 1)) (by omega)
    rw [show j + 1 + (t.size - (j + 1)) = t.size by omega] at hle
    have hst : dv t (j + 1) = dv t j * 10 + (bt t (j : Int) - 48) := rfl
    rw [show k + (d + 1) = (k + d) + 1 by omega]
    simp only [joineryref01_Parse.l0]
    rw [if_pos (by omega), if_pos (by omega), hbj, if_neg (by omega), if_neg (by omega)]
    have e1 : wrap64 ((wrap64 (-(dv t j) * 10)) - ((bt t (j : Int) - 48) % 256)) = -(dv t (j + 1)) := by unfold wrap64; omega
    have e2 : wrap64 (((o + j : Nat) : Int) + 1) = ((o + (j + 1) : Nat) : Int) := by unfold wrap64; omega
    rw [e1, e2]
    exact ih (j + 1) (by omega) (by omega)
theorem bt_digs {s : ByteArray} (h : isLow s = true) (j : Nat) (hj : j < (digs s).size) : bt s ((1 + j : Nat) : Int) = bt (digs s) j := by
  have e : digs s = s.extract 1 s.size := by unfold digs; rw [if_pos h]
  have hsz := (low_split h).2
  have h1 := bt_at s ((1 + j : Nat) : Int) (by simp only [Int.toNat_natCast]; omega)
  have h2 := bt_at (digs s) (j : Int) (by simp only [Int.toNat_natCast]; omega)
  rw [← h1, ← h2]
  simp only [Int.toNat_natCast, e, ByteArray.getElem_extract]
theorem ref_parse1_is (s : ByteArray) (k : Nat) (hk : 60 ≤ k) : joineryref01_Parse.f k s = some (match num_Parse.num s with | some n => (n, true) | none => (0, false)) := by
  unfold joineryref01_Parse.f
  by_cases hbig : (s.size : Int) > 20
  · rw [if_pos hbig]
    cases hp : num_Parse.num s with
    | none => rfl
    | some n =>
      exfalso
      obtain ⟨hn, e⟩ := parse_some hp
      have hl := dec_len 18 n.natAbs (by
        have : (10 : Nat) ^ (18 + 1) = 10000000000000000000 := by decide
        unfold W64 at hn
        omega)
      have : (tx n).size ≤ 20 := by
        unfold tx
        rw [str_size]
        split
        · simp; omega
        · omega
      rw [← e] at this
      omega
  · rw [if_neg hbig]
    have key : ∀ i0 : Nat, (i0 = if isLow s = true then 1 else 0) → i0 ≤ s.size → joineryref01_Parse.l0 (k - 2) s (i0 : Int) 0 (i0 : Int) = some (match num_Parse.num s with | some n => (n, true) | none => (0, false)) := by
      intro i0 hi0 hle
      obtain ⟨r, hr, hc⟩ := ref_l0_any s (i0 : Int) (by omega) (s.size - i0) (k - 2) 0 i0 hle rfl (by omega) (by unfold W64; omega)
      rw [hr]
      congr 1
      cases hp : num_Parse.num s with
      | none =>
        rcases hc with rfl | ⟨n, hn, e, rfl⟩
        · rfl
        · rw [(parse_iff s n hn).mp e] at hp
          cases hp
      | some n =>
        rcases hc with rfl | ⟨m, hm, e, rfl⟩
        · exfalso
          obtain ⟨hn, hsn⟩ := parse_some hp
          have hp' := hp
          unfold num_Parse.num at hp'
          obtain ⟨hok, hbad, hcan, h0, h1, h2⟩ := sized_back hp'
          cases hl : isLow s with
          | true =>
            rw [hl] at hi0
            simp only [if_true] at hi0
            subst hi0
            obtain ⟨rfl, hle, hge⟩ := h1 hl
            unfold top63 at hle
            have hsz := (low_split hl).2
            have hx := ref_l0_exact s (digs s) 1 (by omega) (by omega) (fun j hj => bt_digs hl j hj) hok (by omega) (k - 2 - (digs s).size) (digs s).size 0 (by omega) (by omega)
            rw [show k - 2 - (digs s).size + (digs s).size = k - 2 by omega] at hx
            have hx' : joineryref01_Parse.l0 (k - 2) s 1 0 1 = _ := hx
            have hr' : joineryref01_Parse.l0 (k - 2) s 1 0 1 = some (0, false) := hr
            rw [hx'] at hr'
            obtain ⟨q, hq⟩ : ∃ q, k - 2 - (digs s).size = q + 1 := ⟨k - 3 - (digs s).size, by omega⟩
            rw [hq] at hr'
            simp only [joineryref01_Parse.l0] at hr'
            rw [if_neg (by omega), if_neg (by decide), ref_text_is _ hn q (by omega)] at hr'
            simp only [Option.bind_some] at hr'
            rw [if_pos ((toList_iff _ _).mpr hsn.symm)] at hr'
            simp at hr'
          | false =>
            rw [hl] at hi0
            simp only [Bool.false_eq_true, if_false] at hi0
            subst hi0
            have hdg : digs s = s := by unfold digs; rw [hl]; rfl
            rw [hdg] at hok hbad hcan h0 h1 h2
            obtain ⟨rfl, hle⟩ := h2 hl
            unfold top63 at hle
            have hx := ref_l0_exact s s 0 (by omega) (by omega) (fun j hj => by rw [Nat.zero_add]) hok (by omega) (k - 2 - s.size) s.size 0 (by omega) (by omega)
            rw [show k - 2 - s.size + s.size = k - 2 by omega] at hx
            have hx' : joineryref01_Parse.l0 (k - 2) s 0 0 0 = _ := hx
            have hr' : joineryref01_Parse.l0 (k - 2) s 0 0 0 = some (0, false) := hr
            rw [hx'] at hr'
            obtain ⟨q, hq⟩ : ∃ q, k - 2 - s.size = q + 1 := ⟨k - 3 - s.size, by omega⟩
            rw [hq] at hr'
            simp only [joineryref01_Parse.l0] at hr'
            have hw : wrap64 (- -(dv s s.size)) = dv s s.size := by unfold wrap64; omega
            rw [if_neg (by omega), if_pos (show ((0 : Nat) : Int) = 0 from rfl), hw, ref_text_is _ hn q (by omega)] at hr'
            simp only [Option.bind_some] at hr'
            rw [if_pos ((toList_iff _ _).mpr hsn.symm)] at hr'
            simp at hr'
        · rw [(parse_iff s m hm).mp e] at hp
          rw [Option.some.inj hp]
    obtain ⟨q, hq⟩ : ∃ q, k = q + 2 := ⟨k - 2, by omega⟩
    subst hq
    rw [show q + 2 - 2 = q by omega] at key
    by_cases hpos : (s.size : Int) > 0
    · rw [if_pos hpos, if_pos (by omega)]
      by_cases hb : bt s 0 = 45
      · have hl : isLow s = true := by unfold isLow; exact decide_eq_true ⟨by omega, hb⟩
        rw [beq_iff_eq.mpr hb]
        simp only [joineryref01_Parse.j0, joineryref01_Parse.j1, if_true]
        exact key 1 (by rw [hl]; rfl) (by omega)
      · have hl : isLow s = false := by unfold isLow; exact decide_eq_false (fun h => hb h.2)
        rw [beq_eq_false_iff_ne.mpr hb]
        simp only [joineryref01_Parse.j0, joineryref01_Parse.j1, Bool.false_eq_true, if_false]
        exact key 0 (by rw [hl]; rfl) (by omega)
    · have hl : isLow s = false := by unfold isLow; exact decide_eq_false (fun h => by omega)
      rw [if_neg hpos]
      simp only [joineryref01_Parse.j0, joineryref01_Parse.j1, Bool.false_eq_true, if_false]
      exact key 0 (by rw [hl]; rfl) (by omega)

theorem knows1_is (k : Nat) (hk : 200 ≤ k) : joinerylaw01_knows.f k = some true := by
  unfold joinerylaw01_knows.f
  have h1 : num_Do.f 7 (-7) 2 = some (-3, 0) := by decide +kernel
  have h2 : num_Do.f 4 9223372036854775807 1 = some (-9223372036854775808, 0) := by decide +kernel
  have h3 : num_Do.f 7 1 0 = some (0, 3) := by decide +kernel
  have h4 : num_Parse.f (⟨#[45, 57, 50, 50, 51, 51, 55, 50, 48, 51, 54, 56, 53, 52, 55, 55, 53, 56, 48, 56]⟩ : ByteArray) = some (-9223372036854775808, 0) := by decide +kernel
  have h5 : (tx (-70)).toList = ([45, 55, 48] : List UInt8) := by
    rw [ByteArray.toList_eq]
    unfold tx
    rw [if_pos (by decide), show (-70 : Int).natAbs = 70 from rfl, dec_step (by decide), dec_small (by decide)]
    decide
  have h6 : num_Has.f 10 = some true := by decide +kernel
  rw [h1, h2, h3, h4, num_text_ge (-70) (by unfold W64; omega) k hk, h6]
  simp only [Option.bind_some, if_true, h5]

end Go.Proofs.Ytolacdlobopoiaa.Pure
