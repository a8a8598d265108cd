/- What loc.Parse answers, and that the Go code comes to it, for every text. Conditions: none. -/
import Derived.Test.YtolacdlobopoiaaNum0
import Derived.Laws.RangeAny
namespace Go.Proofs.Ytolacdlobopoiaa.Num
open Go.RowKit Go.Proofs.YtolacdlobopoiaaW.PrintWords Go.Proofs.YtolacdlobopoiaaW.PrintLast Go.Proofs.YtolacdlobopoiaaW.PrintMore
attribute [local go_sem] max2_int min2_int max_two min_two max_three min_three max_four min_four   -- for this text's walks alone
set_option linter.unusedVariables false
set_option linter.unusedSimpArgs false

/-- The place that a text names, told by its bytes. -/
def loc_Parse.place (s : ByteArray) : Option Int :=
  if s.size = 2 ∧ bt s 0 = 114 ∧ 48 ≤ bt s 1 ∧ bt s 1 ≤ 55 then some (bt s 1 - 48)
  else if s.size = 2 ∧ bt s 0 = 115 ∧ 48 ≤ bt s 1 ∧ bt s 1 ≤ 57 then some (8 + (bt s 1 - 48))
  else if s.size = 3 ∧ bt s 0 = 115 ∧ bt s 1 = 49 ∧ 48 ≤ bt s 2 ∧ bt s 2 ≤ 53 then some (8 + (10 + (bt s 2 - 48)))
  else none
def loc_Parse.f (s : ByteArray) : Option (Int × Int) := some (match loc_Parse.place s with | some l => (l, 0) | none => (0, 2))
/-- The state at a round's head: how far the text was read, and what was gathered. -/
def loc_Parse.St (s : ByteArray) (pos : Nat) (first n many : Int) : Prop :=
  pos ≤ s.size ∧ ((pos = 0 ∧ first = 0 ∧ n = 0 ∧ many = 0) ∨
  ((bt s 0 = 114 ∧ first = 0 ∧ many = 8 ∨ bt s 0 = 115 ∧ first = 8 ∧ many = 16) ∧
    (pos = 1 ∧ n = 0 ∨
     (48 ≤ bt s 1 ∧ bt s 1 ≤ 57) ∧ (pos = 2 ∧ n = bt s 1 - 48 ∨
       pos = 3 ∧ 48 ≤ bt s 2 ∧ bt s 2 ≤ 57 ∧ bt s 1 ≠ 48 ∧ n = (bt s 1 - 48) * 10 + (bt s 2 - 48)))))
theorem loc_Parse.bounds {s : ByteArray} {pos : Nat} {x y z : Int} (h : loc_Parse.St s pos x y z) : pos ≤ 3 ∧ 0 ≤ x ∧ x ≤ 8 ∧ 0 ≤ y ∧ y ≤ 99 ∧ 0 ≤ z ∧ z ≤ 16 := by
  unfold loc_Parse.St at h
  omega
theorem loc_Parse.exit_err {s : ByteArray} {pos : Nat} {x y z : Int} (h : loc_Parse.St s pos x y z) (hp : ¬ pos < s.size) (hw : (s.size : Int) < 2 ∨ z ≤ y) : loc_Parse.place s = none := by
  unfold loc_Parse.St at h
  unfold loc_Parse.place
  rw [if_neg (by omega), if_neg (by omega), if_neg (by omega)]
theorem loc_Parse.exit_ok {s : ByteArray} {pos : Nat} {x y z : Int} (h : loc_Parse.St s pos x y z) (hp : ¬ pos < s.size) (h2 : 2 ≤ (s.size : Int)) (hw : y < z) : loc_Parse.place s = some (x + y) := by
  unfold loc_Parse.St at h
  unfold loc_Parse.place
  by_cases c1 : s.size = 2 ∧ bt s 0 = 114 ∧ 48 ≤ bt s 1 ∧ bt s 1 ≤ 55
  · rw [if_pos c1]
    congr 1
    omega
  · rw [if_neg c1]
    by_cases c2 : s.size = 2 ∧ bt s 0 = 115 ∧ 48 ≤ bt s 1 ∧ bt s 1 ≤ 57
    · rw [if_pos c2]
      congr 1
      omega
    · rw [if_neg c2, if_pos (by omega)]
      congr 1
      omega
theorem bt_zero (s : ByteArray) : bt s ((0 : Nat) : Int) = bt s 0 := rfl
theorem bt_one (s : ByteArray) : bt s ((1 : Nat) : Int) = bt s 1 := rfl
theorem bt_two (s : ByteArray) : bt s ((2 : Nat) : Int) = bt s 2 := rfl
theorem loc_Parse.stop {s : ByteArray} {pos : Nat} {x y z : Int} (h : loc_Parse.St s pos x y z) (hp : pos < s.size) (hc : (pos = 0 ∧ bt s pos ≠ 114 ∧ bt s pos ≠ 115) ∨ (pos ≠ 0 ∧ (bt s pos < 48 ∨ 57 < bt s pos)) ∨ 2 < pos ∨ (pos = 2 ∧ y = 0)) : loc_Parse.place s = none := by
  unfold loc_Parse.St at h
  unfold loc_Parse.place
  obtain ⟨_, h⟩ := h
  rcases h with ⟨rfl, _⟩ | ⟨_, ⟨rfl, _⟩ | ⟨_, ⟨rfl, _⟩ | ⟨rfl, _⟩⟩⟩
  · rw [bt_zero] at hc; rw [if_neg (by omega), if_neg (by omega), if_neg (by omega)]
  · rw [bt_one] at hc; rw [if_neg (by omega), if_neg (by omega), if_neg (by omega)]
  · rw [bt_two] at hc; rw [if_neg (by omega), if_neg (by omega), if_neg (by omega)]
  · rw [if_neg (by omega), if_neg (by omega), if_neg (by omega)]
theorem loc_Parse.next {s : ByteArray} {pos : Nat} {x y z : Int} (h : loc_Parse.St s pos x y z) (hp : pos < s.size) (h0 : pos ≠ 0) (h2 : pos ≤ 2) (hc : 48 ≤ bt s pos ∧ bt s pos ≤ 57) (hn : ¬ (pos = 2 ∧ y = 0)) : loc_Parse.St s (pos + 1) x (y * 10 + (bt s pos - 48)) z := by
  unfold loc_Parse.St at h ⊢
  obtain ⟨_, h⟩ := h
  rcases h with ⟨rfl, _⟩ | ⟨ha, ⟨rfl, hb⟩ | ⟨hd, ⟨rfl, hb⟩ | ⟨rfl, hb⟩⟩⟩
  · omega
  · rw [bt_one] at hc ⊢
    exact ⟨by omega, .inr ⟨ha, .inr ⟨hc, .inl ⟨by omega, by omega⟩⟩⟩⟩
  · rw [bt_two] at hc ⊢
    exact ⟨by omega, .inr ⟨ha, .inr ⟨hd, .inr ⟨by omega, hc.1, hc.2, by omega, by omega⟩⟩⟩⟩
  · omega
theorem loc_Parse.first_r {s : ByteArray} {x y z : Int} (h : loc_Parse.St s 0 x y z) (hp : 0 < s.size) (hc : bt s ((0 : Nat) : Int) = 114) : x = 0 ∧ loc_Parse.St s 1 x y 8 := by
  unfold loc_Parse.St at h ⊢
  rw [show ((0 : Nat) : Int) = 0 from rfl] at hc
  omega
theorem loc_Parse.first_s {s : ByteArray} {x y z : Int} (h : loc_Parse.St s 0 x y z) (hp : 0 < s.size) (hc : bt s ((0 : Nat) : Int) = 115) : loc_Parse.St s 1 8 y 16 := by
  unfold loc_Parse.St at h ⊢
  rw [show ((0 : Nat) : Int) = 0 from rfl] at hc
  omega
theorem loc_Parse.of_none {s : ByteArray} {r1 r2 : Int} (h : loc_Parse.f s = some (r1, r2)) (hn : loc_Parse.place s = none) : r1 = 0 ∧ r2 = 2 := by
  unfold loc_Parse.f at h
  rw [hn] at h
  simp only [Option.some.injEq, Prod.mk.injEq] at h
  omega
theorem loc_Parse.of_some {s : ByteArray} {r1 r2 l : Int} (h : loc_Parse.f s = some (r1, r2)) (hn : loc_Parse.place s = some l) : r1 = l ∧ r2 = 0 := by
  unfold loc_Parse.f at h
  rw [hn] at h
  simp only [Option.some.injEq, Prod.mk.injEq] at h
  omega
/-- The next letter of a text, where it is one byte. -/
theorem next_bt (w : World) (s : ByteArray) (pos : Nat) (hp : pos < s.size) (ha : bt s pos < 128) (ty : TypeId) :
    (Instr.next (.pointer (some ⟨w.heap.size, 0, none⟩)) true ty).run Try.prog (w.iter s pos) = .ok (.tuple #[.bool true, .int .i64 pos, .int .i32 (bt s pos)]) (w.iter s (pos + 1)) := by
  have hb := bt_at s (pos : Int) hp
  have := run_next_ascii (P := Try.prog) w s pos ty hp (by rw [← hb] at ha; simp only [Int.toNat_natCast] at ha; omega)
  rw [this]
  simp only [Int.toNat_natCast] at hb
  rw [hb]
/-- The next letter of a text, where it is more than one byte: it is no digit and no small letter of ASCII's. -/
theorem next_high (w : World) (s : ByteArray) (pos : Nat) (hp : pos < s.size) (ha : ¬ bt s pos < 128) :
    ∃ (c : Int) (pos' : Nat), 128 ≤ c ∧ c ≤ 2147483647 ∧ ∀ ty : TypeId, (Instr.next (.pointer (some ⟨w.heap.size, 0, none⟩)) true ty).run Try.prog (w.iter s pos) = .ok (.tuple #[.bool true, .int .i64 pos, .int .i32 c]) (w.iter s pos') := by
  have hb := bt_at s (pos : Int) hp
  simp only [Int.toNat_natCast] at hb
  have hd := decode_high s pos hp (by omega)
  have hl := decode_le s pos
  exact ⟨_, _, by omega, by omega, fun ty => run_next_any (P := Try.prog) w s pos ty hp⟩
theorem below_iter (w : World) (s : ByteArray) (pos : Nat) : Below w.heap.size w (w.iter s pos) := below_alloc (Below.refl _ _) _
set_option maxHeartbeats 8000000 in
set_option maxRecDepth 100000 in
theorem loc_Parse.calls (a0 : ByteArray) (r1 : Int) (r2 : Int) (w : World) (h : loc_Parse.f a0 = some (r1, r2)) :
    Calls Try.prog 25 #[.string a0] w fun e w' => e = .returned (.tuple #[.int .i64 r1, .int .i64 r2]) ∧ Below w.heap.size w w' := by
  have H := Aside0.mk h
  clear h
  go_enter Try.func25, Try.ntmps25
  go_wp2
  go_loopw [4, 5, 6] (fun f n m w' => ∃ (pos : Nat) (x y z : Int), w' = w.iter a0 pos ∧ f = .int .i64 x ∧ n = .int .i64 y ∧ m = .int .i64 z ∧ Aside0 (loc_Parse.St a0 pos x y z)) (fun _ _ _ w' => a0.size - w'.iterPos w.heap.size)
  case atStart => exact ⟨0, 0, 0, 0, rfl, rfl, rfl, rfl, ⟨⟨Nat.zero_le _, .inl ⟨rfl, rfl, rfl, rfl⟩⟩⟩⟩
  case round =>
    obtain ⟨pos, x, y, z, rfl, rfl, rfl, rfl, HS⟩ := hrel
    obtain ⟨b0, b1, b2, b3, b4, b5, b6⟩ := loc_Parse.bounds HS.out
    by_cases hp : pos < a0.size
    · by_cases ha : bt a0 pos < 128
      · have hnx := next_bt w a0 pos hp ha
        have hb := bt_range a0 pos
        obtain ⟨c, hcc⟩ : ∃ c : Int, c = bt a0 pos := ⟨_, rfl⟩
        rw [← hcc] at hnx hb ha
        have HC := Aside0.mk hcc
        clear hcc
        by_cases hz : pos = 0
        · subst hz
          by_cases c1 : c = 114
          · subst c1
            obtain ⟨rfl, hs⟩ := loc_Parse.first_r HS.out hp HC.out.symm
            have HS' := Aside0.mk hs
            clear hs HS
            go_wp2
            go_roundw
            case rel => exact ⟨1, _, _, _, rfl, rfl, rfl, rfl, HS'⟩
            case measure => simp; omega
          · by_cases c2 : c = 115
            · subst c2
              have hs := loc_Parse.first_s HS.out hp HC.out.symm
              have HS' := Aside0.mk hs
              clear hs HS
              go_wp2
              go_roundw
              case rel => exact ⟨1, _, _, _, rfl, rfl, rfl, rfl, HS'⟩
              case measure => simp; omega
            · obtain ⟨rfl, rfl⟩ := loc_Parse.of_none H.out (loc_Parse.stop HS.out hp (.inl ⟨rfl, by rw [← HC.out]; exact c1, by rw [← HC.out]; exact c2⟩))
              have ne1 : (c == 114) = false := beq_eq_false_iff_ne.mpr (by omega)
              have ne2 : (c == 115) = false := beq_eq_false_iff_ne.mpr (by omega)
              clear HS
              go_wp2
              all_goals (go_ret2; exact ⟨rfl, below_iter _ _ _⟩)
        · have hpos : pos = 1 ∨ pos = 2 ∨ pos = 3 := by omega
          by_cases hg : pos ≤ 2 ∧ 48 ≤ c ∧ c ≤ 57 ∧ ¬ (pos = 2 ∧ y = 0)
          · have hs := loc_Parse.next HS.out hp hz hg.1 (by rw [← HC.out]; exact ⟨hg.2.1, hg.2.2.1⟩) hg.2.2.2
            rw [← HC.out] at hs
            have HS' := Aside0.mk hs
            clear hs HS
            obtain ⟨_, g1, g2, g3⟩ := hg
            rcases hpos with rfl | rfl | rfl
            · clear g3
              go_wp2
              go_roundw
              case rel => exact ⟨2, _, _, _, rfl, rfl, rfl, rfl, HS'⟩
              case measure => simp; omega
            · have g4 : (y == 0) = false := beq_eq_false_iff_ne.mpr (by omega)
              clear g3
              go_wp2
              go_roundw
              case rel => exact ⟨3, _, _, _, rfl, rfl, rfl, rfl, HS'⟩
              case measure => simp; omega
            · omega
          · obtain ⟨rfl, rfl⟩ := loc_Parse.of_none H.out (loc_Parse.stop HS.out hp (by rw [← HC.out]; omega))
            clear HS
            rcases hpos with rfl | rfl | rfl
            · have g : c < 48 ∨ 57 < c := by omega
              clear hg
              rcases g with g | g
              · go_wp2
                all_goals (go_ret2; exact ⟨rfl, below_iter _ _ _⟩)
              · have g' : 48 ≤ c := by omega
                go_wp2
                all_goals (go_ret2; exact ⟨rfl, below_iter _ _ _⟩)
            · by_cases g : c < 48
              · clear hg
                go_wp2
                all_goals (go_ret2; exact ⟨rfl, below_iter _ _ _⟩)
              · by_cases g' : 57 < c
                · have g'' : 48 ≤ c := by omega
                  clear hg
                  go_wp2
                  all_goals (go_ret2; exact ⟨rfl, below_iter _ _ _⟩)
                · have g'' : 48 ≤ c := by omega
                  have g3 : c ≤ 57 := by omega
                  obtain rfl : y = 0 := by omega
                  clear hg
                  go_wp2
                  all_goals (go_ret2; exact ⟨rfl, below_iter _ _ _⟩)
            · clear hg
              go_wp2
              all_goals (go_ret2; exact ⟨rfl, below_iter _ _ _⟩)
      · obtain ⟨c, pos', hc1, hc2, hnx⟩ := next_high w a0 pos hp ha
        obtain ⟨rfl, rfl⟩ := loc_Parse.of_none H.out (loc_Parse.stop HS.out hp (by omega))
        have ne1 : (c == 114) = false := beq_eq_false_iff_ne.mpr (by omega)
        have ne2 : (c == 115) = false := beq_eq_false_iff_ne.mpr (by omega)
        clear HS
        go_wp2
        all_goals (go_ret2; exact ⟨rfl, below_iter _ _ _⟩)
    · have hnx : ∀ ty, (Instr.next (.pointer (some ⟨w.heap.size, 0, none⟩)) true ty).run Try.prog (w.iter a0 pos) = _ := fun ty => run_next_end w a0 pos ty hp
      by_cases hw : (a0.size : Int) < 2 ∨ z ≤ y
      · obtain ⟨rfl, rfl⟩ := loc_Parse.of_none H.out (loc_Parse.exit_err HS.out hp hw)
        clear HS
        go_wp2
        all_goals (first | omega | (go_ret2; exact ⟨rfl, below_iter _ _ _⟩))
      · obtain ⟨rfl, rfl⟩ := loc_Parse.of_some H.out (loc_Parse.exit_ok HS.out hp (by omega) (by omega))
        clear HS
        go_wp2
        all_goals (first | omega | (go_ret2; exact ⟨rfl, below_iter _ _ _⟩))

end Go.Proofs.Ytolacdlobopoiaa.Num
