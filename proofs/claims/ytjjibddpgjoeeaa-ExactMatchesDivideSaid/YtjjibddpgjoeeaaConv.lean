/-
  Plain arithmetic of the product of two numbers of eight digits: the sums that the loops of the reference write, and what they stand for. No program in sight.
-/
import Derived.Test.YtjjibddpgjoeeaaDigits
namespace Go.Proofs.Ytjjibddpgjoeeaa

/-- The sums behind i whole rows. -/
def full (x y : Nat → Int) : Nat → Nat → Int
  | 0, _ => 0
  | i + 1, j => full x y i j + if i ≤ j then x i * y (j - i) else 0
/-- The sums behind i whole rows and k places of the next one. -/
def part (x y : Nat → Int) (i k j : Nat) : Int := full x y i j + if i ≤ j ∧ j < i + k then x i * y (j - i) else 0
theorem part_zero (x y : Nat → Int) (i j : Nat) : part x y i 0 j = full x y i j := by
  unfold part
  rw [if_neg (by omega)]; omega
theorem part_at (x y : Nat → Int) (i k : Nat) : part x y i (k + 1) (i + k) = part x y i k (i + k) + x i * y k := by
  unfold part
  rw [if_pos (by omega), if_neg (by omega), Nat.add_sub_cancel_left]; omega
theorem part_off (x y : Nat → Int) (i k j : Nat) (h : j ≠ i + k) : part x y i (k + 1) j = part x y i k j := by
  unfold part
  by_cases h1 : i ≤ j ∧ j < i + k
  · rw [if_pos h1, if_pos (by omega)]
  · rw [if_neg h1, if_neg (by omega)]
theorem part_end (x y : Nat → Int) (i k j : Nat) (h : 8 ≤ i + k) (hj : j < 8) : part x y i k j = full x y (i + 1) j := by
  show full x y i j + (if i ≤ j ∧ j < i + k then x i * y (j - i) else 0) = full x y i j + (if i ≤ j then x i * y (j - i) else 0)
  by_cases h1 : i ≤ j
  · rw [if_pos h1, if_pos (by omega)]
  · rw [if_neg h1, if_neg (by omega)]
theorem mul_bd {a b : Int} (a0 : 0 ≤ a) (a1 : a ≤ 65535) (b0 : 0 ≤ b) (b1 : b ≤ 65535) : 0 ≤ a * b ∧ a * b ≤ 4294836225 :=
  ⟨Int.mul_nonneg a0 b0, Int.le_trans (Int.mul_le_mul a1 b1 b0 (by decide)) (by decide)⟩
theorem full_bd (x y : Nat → Int) (hx : ∀ i, 0 ≤ x i ∧ x i ≤ 65535) (hy : ∀ i, 0 ≤ y i ∧ y i ≤ 65535) (j : Nat) : ∀ i, 0 ≤ full x y i j ∧ full x y i j ≤ i * 4294836225
  | 0 => by show 0 ≤ (0 : Int) ∧ (0 : Int) ≤ _; omega
  | i + 1 => by
    have h := full_bd x y hx hy j i
    unfold full
    have := mul_bd (hx i).1 (hx i).2 (hy (j - i)).1 (hy (j - i)).2
    by_cases h1 : i ≤ j
    · rw [if_pos h1]; omega
    · rw [if_neg h1]; omega
theorem part_bd (x y : Nat → Int) (hx : ∀ i, 0 ≤ x i ∧ x i ≤ 65535) (hy : ∀ i, 0 ≤ y i ∧ y i ≤ 65535) (i k j : Nat) (hi : i < 8) : 0 ≤ part x y i k j ∧ part x y i k j ≤ 34358689800 := by
  have h := full_bd x y hx hy j i
  unfold part
  have := mul_bd (hx i).1 (hx i).2 (hy (j - i)).1 (hy (j - i)).2
  by_cases h1 : i ≤ j ∧ j < i + k
  · rw [if_pos h1]; omega
  · rw [if_neg h1]; omega
theorem mul_val8 (z : Int) (y : Nat → Int) : z * val8 y = val8 (fun k => z * y k) := by
  simp only [val8, Int.mul_add, ← Int.mul_assoc]
theorem val8_mul (x : Nat → Int) (V : Int) : val8 x * V = x 0 * V + (x 1 * V) * 65536 + (x 2 * V) * 4294967296 + (x 3 * V) * 281474976710656 + (x 4 * V) * 18446744073709551616 + (x 5 * V) * 1208925819614629174706176 + (x 6 * V) * 79228162514264337593543950336 + (x 7 * V) * 5192296858534827628530496329220096 := by
  simp only [val8, Int.add_mul, Int.mul_right_comm _ _ V]
theorem val_full (x y : Nat → Int) : eqv (val8 (full x y 8)) (val8 x * val8 y) := by
  rw [val8_mul]
  simp only [mul_val8]
  unfold eqv val8
  simp only [full, Nat.reduceLeDiff, Nat.reduceSub, if_true, if_false, Nat.zero_le, Nat.le_refl, Nat.sub_zero, Nat.sub_self, show ¬ (1 : Nat) ≤ 0 by decide, show ¬ (2 : Nat) ≤ 0 by decide, Int.zero_add, Int.add_zero]
  omega
theorem eqv_mul2 {a b c d : Int} (h : eqv a b) (k : eqv c d) : eqv (a * c) (b * d) := by
  refine eqv_trans (eqv_mul h c) ?_
  rw [Int.mul_comm b c, Int.mul_comm b d]
  exact eqv_mul k b
end Go.Proofs.Ytjjibddpgjoeeaa
