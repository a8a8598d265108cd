/- What bits in common and bits of either have to do with sums and differences, and what wraps do. Plain: numbers alone. -/
import Derived.Test.YtolacdlobopoiaaFactsN
namespace Go.Proofs.Ytolacdlobopoiaa.Pure
open Go.RowKit Go.Proofs.Ytolacdlobopoiaa.Num Go.Proofs.YtolacdlobopoiaaW.PrintWords Go.Proofs.YtolacdlobopoiaaW.PrintLast
set_option linter.unusedVariables false
set_option linter.unusedSimpArgs false

theorem nat_half (n : Nat) : n = 2 * (n / 2) + n % 2 := by omega
theorem and_or_nat (a : Nat) : ∀ b : Nat, (a &&& b) + (a ||| b) = a + b := by
  induction a using Nat.strongRecOn with
  | _ a ih =>
    intro b
    by_cases h0 : a = 0
    · subst h0; simp
    · have hi := ih (a / 2) (by omega) (b / 2)
      have e1 : (a &&& b) / 2 = a / 2 &&& b / 2 := by simpa using Nat.and_div_two (a := a) (b := b)
      have e2 : (a ||| b) / 2 = a / 2 ||| b / 2 := by simpa using Nat.or_div_two (a := a) (b := b)
      have m1 : (a &&& b) % 2 = (a % 2) &&& (b % 2) := by simpa using Nat.and_mod_two_pow (a := a) (b := b) (n := 1)
      have m2 : (a ||| b) % 2 = (a % 2) ||| (b % 2) := by simpa using Nat.or_mod_two_pow (a := a) (b := b) (n := 1)
      have m3 : ((a % 2) &&& (b % 2)) + ((a % 2) ||| (b % 2)) = a % 2 + b % 2 := by
        rcases Nat.mod_two_eq_zero_or_one a with ha | ha <;> rcases Nat.mod_two_eq_zero_or_one b with hb | hb <;> rw [ha, hb] <;> decide
      rw [nat_half (a &&& b), nat_half (a ||| b), e1, e2, m1, m2]
      omega
theorem and_xor_nat (a : Nat) : ∀ b : Nat, (a &&& b) + (a ^^^ b) = (a ||| b) := by
  induction a using Nat.strongRecOn with
  | _ a ih =>
    intro b
    by_cases h0 : a = 0
    · subst h0; simp
    · have hi := ih (a / 2) (by omega) (b / 2)
      have e1 : (a &&& b) / 2 = a / 2 &&& b / 2 := by simpa using Nat.and_div_two (a := a) (b := b)
      have e2 : (a ||| b) / 2 = a / 2 ||| b / 2 := by simpa using Nat.or_div_two (a := a) (b := b)
      have e3 : (a ^^^ b) / 2 = a / 2 ^^^ b / 2 := by simpa using Nat.xor_div_two (a := a) (b := b)
      have m1 : (a &&& b) % 2 = (a % 2) &&& (b % 2) := by simpa using Nat.and_mod_two_pow (a := a) (b := b) (n := 1)
      have m2 : (a ||| b) % 2 = (a % 2) ||| (b % 2) := by simpa using Nat.or_mod_two_pow (a := a) (b := b) (n := 1)
      have m4 : (a ^^^ b) % 2 = (a % 2) ^^^ (b % 2) := by simpa using Nat.xor_mod_two_pow (a := a) (b := b) (n := 1)
      have m3 : ((a % 2) &&& (b % 2)) + ((a % 2) ^^^ (b % 2)) = ((a % 2) ||| (b % 2)) := by
        rcases Nat.mod_two_eq_zero_or_one a with ha | ha <;> rcases Nat.mod_two_eq_zero_or_one b with hb | hb <;> rw [ha, hb] <;> decide
      rw [nat_half (a &&& b), nat_half (a ||| b), nat_half (a ^^^ b), e1, e2, e3, m1, m2, m4]
      omega
/-- The 64 bits of a number. -/
def B (a : Int) : BitVec 64 := BitVec.ofInt 64 a
theorem wrap_congr {a b : Int} (h : (a - b) % 18446744073709551616 = 0) : wrap64 a = wrap64 b := by unfold wrap64; omega
theorem B_nat (a : Int) : ((B a).toNat : Int) = a % 18446744073709551616 := by
  have e : ((2 ^ 64 : Nat) : Int) = 18446744073709551616 := by decide +kernel
  have h : (B a).toNat = (a % 18446744073709551616).toNat := by
    rw [← e]
    exact BitVec.toNat_ofInt (n := 64) a
  rw [h]
  omega
theorem bits_is (op : BinOp) (a b : Int) (f : BitVec 64 → BitVec 64 → BitVec 64) (h : Go.bits op .i64 a b = IntKind.i64.wrap ((f (B a) (B b)).toNat : Int)) : Go.bits op .i64 a b = wrap64 ((f (B a) (B b)).toNat : Int) := by
  rw [h, IntKind.wrap_i64]
  unfold wrap64
  omega
theorem bits_and (a b : Int) : Go.bits .and .i64 a b = wrap64 (((B a).toNat &&& (B b).toNat : Nat) : Int) := by
  have := bits_is .and a b (· &&& ·) rfl
  simpa [BitVec.toNat_and] using this
theorem bits_or (a b : Int) : Go.bits .or .i64 a b = wrap64 (((B a).toNat ||| (B b).toNat : Nat) : Int) := by
  have := bits_is .or a b (· ||| ·) rfl
  simpa [BitVec.toNat_or] using this
theorem bits_xor (a b : Int) : Go.bits .xor .i64 a b = wrap64 (((B a).toNat ^^^ (B b).toNat : Nat) : Int) := by
  have := bits_is .xor a b (· ^^^ ·) rfl
  simpa [BitVec.toNat_xor] using this
theorem B_wrap_nat (n : Nat) (h : n < 18446744073709551616) : (B (wrap64 (n : Int))).toNat = n := by
  have h1 := B_nat (wrap64 (n : Int))
  have h2 : wrap64 (n : Int) % 18446744073709551616 = n := by unfold wrap64; omega
  omega
theorem or_sub_and (a b : Int) : wrap64 (Go.bits .or .i64 a b - Go.bits .and .i64 a b) = Go.bits .xor .i64 a b := by
  have h := and_xor_nat (B a).toNat (B b).toNat
  rw [bits_and, bits_or, bits_xor, ← h]
  generalize ((B a).toNat &&& (B b).toNat) = x
  generalize ((B a).toNat ^^^ (B b).toNat) = y
  unfold wrap64
  omega
theorem wrap_sum (x y a b u v : Int) (h : x + y = u + v) (ha : u = a % 18446744073709551616) (hb : v = b % 18446744073709551616) : wrap64 (wrap64 x + wrap64 y) = wrap64 (a + b) := by
  unfold wrap64
  omega
theorem and_add_or (a b : Int) : wrap64 (Go.bits .and .i64 a b + Go.bits .or .i64 a b) = wrap64 (a + b) := by
  rw [bits_and, bits_or]
  exact wrap_sum _ _ a b _ _ (by exact_mod_cast and_or_nat (B a).toNat (B b).toNat) (B_nat a) (B_nat b)
theorem xor_back (a b : Int) (h : W64 a) : Go.bits .xor .i64 (Go.bits .xor .i64 a b) b = a := by
  have hx : ((B a).toNat ^^^ (B b).toNat) < 18446744073709551616 := by
    have e : (2 : Nat) ^ 64 = 18446744073709551616 := by decide
    have := Nat.xor_lt_two_pow (B a).isLt (B b).isLt
    rwa [e] at this
  rw [bits_xor a b, bits_xor, B_wrap_nat _ hx, Nat.xor_assoc, Nat.xor_self, Nat.xor_zero, B_nat]
  unfold W64 at h
  unfold wrap64
  omega
theorem and_self64 (a : Int) (h : W64 a) : Go.bits .and .i64 a a = a := by
  rw [bits_and, Nat.and_self, B_nat]
  unfold W64 at h
  unfold wrap64
  omega
theorem or_self64 (a : Int) (h : W64 a) : Go.bits .or .i64 a a = a := by
  rw [bits_or, Nat.or_self, B_nat]
  unfold W64 at h
  unfold wrap64
  omega
theorem wrap_shift (a q : Int) : wrap64 (a + 18446744073709551616 * q) = wrap64 a := by unfold wrap64; omega
theorem wrap_ex (a : Int) : ∃ q, wrap64 a = a + 18446744073709551616 * q := ⟨(wrap64 a - a) / 18446744073709551616, by unfold wrap64; omega⟩
theorem wrap_mul_left (a b : Int) : wrap64 (wrap64 a * b) = wrap64 (a * b) := by
  obtain ⟨q, hq⟩ := wrap_ex a
  rw [hq, Int.add_mul, Int.mul_assoc, wrap_shift]
theorem wrap_mul_right (a b : Int) : wrap64 (a * wrap64 b) = wrap64 (a * b) := by rw [Int.mul_comm, wrap_mul_left, Int.mul_comm]
theorem wrap_add_left (a b : Int) : wrap64 (wrap64 a + b) = wrap64 (a + b) := by unfold wrap64; omega
theorem wrap_add_right (a b : Int) : wrap64 (a + wrap64 b) = wrap64 (a + b) := by unfold wrap64; omega
theorem wrap_sub_left (a b : Int) : wrap64 (wrap64 a - b) = wrap64 (a - b) := by unfold wrap64; omega
theorem wrap_sub_right (a b : Int) : wrap64 (a - wrap64 b) = wrap64 (a - b) := by unfold wrap64; omega
theorem do_add (a b : Int) : num_Do.f 4 a b = some (wrap64 (a + b), 0) := rfl
theorem do_sub (a b : Int) : num_Do.f 5 a b = some (wrap64 (a - b), 0) := rfl
theorem do_mul (a b : Int) : num_Do.f 6 a b = some (wrap64 (a * b), 0) := rfl
theorem do_div (a b : Int) (h : b ≠ 0) : num_Do.f 7 a b = some (wrap64 (Int.tdiv a b), 0) := by
  have : num_Do.v 7 a b = if b = 0 then (0, 3) else (wrap64 (Int.tdiv a b), 0) := rfl
  unfold num_Do.f
  rw [this, if_neg h]
theorem do_and (a b : Int) : num_Do.f 8 a b = some (Go.bits .and .i64 a b, 0) := rfl
theorem do_or (a b : Int) : num_Do.f 9 a b = some (Go.bits .or .i64 a b, 0) := rfl
theorem do_xor (a b : Int) : num_Do.f 10 a b = some (Go.bits .xor .i64 a b, 0) := rfl
theorem do_less (a b : Int) : num_Do.f 11 a b = some ((if a < b then 1 else 0), 0) := rfl
theorem do_same (a b : Int) : num_Do.f 12 a b = some ((if a = b then 1 else 0), 0) := rfl

end Go.Proofs.Ytolacdlobopoiaa.Pure
