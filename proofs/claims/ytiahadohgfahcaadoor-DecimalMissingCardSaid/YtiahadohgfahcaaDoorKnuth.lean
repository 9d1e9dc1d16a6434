/-
  Plain arithmetic of one digit of a long division in base 2^32: the guess of a digit, its corrections, and what they end in. No program in sight.
-/
namespace Go.Proofs.YtiahadohgfahcaaDoor

/-- What holds of a guess q of (u 2^32 + u1) / Y, Y = y1 2^32 + y0, and of r = u - q y1. -/
structure KInv (u u1 Y y1 q r : Int) : Prop where
  e : q * y1 + r = u
  r0 : 0 ≤ r
  r1 : r ≤ 4294967295
  q0 : (u * 4294967296 + u1) / Y ≤ q
  q1 : q ≤ 4294967297
  qp : 0 ≤ q

theorem kmul (q y1 y0 Y u r : Int) (hY : Y = y1 * 4294967296 + y0) (e : q * y1 + r = u) : q * Y = (u - r) * 4294967296 + q * y0 := by
  rw [hY, Int.mul_add, ← Int.mul_assoc]
  omega

theorem kstart (u u1 Y y1 y0 : Int) (hY : Y = y1 * 4294967296 + y0) (b1 : 2147483648 ≤ y1) (b2 : y1 ≤ 4294967295) (c1 : 0 ≤ y0) (c2 : y0 ≤ 4294967295) (u0 : 0 ≤ u) (uY : u < Y) (d1 : 0 ≤ u1) (d2 : u1 ≤ 4294967295) :
    KInv u u1 Y y1 (u / y1) (u - u / y1 * y1) := by
  have h := Int.mul_ediv_add_emod u y1
  have hc : y1 * (u / y1) = u / y1 * y1 := Int.mul_comm _ _
  have m0 := Int.emod_nonneg u (show y1 ≠ 0 by omega)
  have m1 := Int.emod_lt_of_pos u (show 0 < y1 by omega)
  have q0 : 0 ≤ u / y1 := Int.ediv_nonneg u0 (by omega)
  have key := kmul (u / y1) y1 y0 Y u (u % y1) hY (by omega)
  have p0 : 0 ≤ u / y1 * y0 := Int.mul_nonneg q0 c1
  refine ⟨by omega, by omega, by omega, ?_, ?_, q0⟩
  · have : u * 4294967296 + u1 < (u / y1 + 1) * Y := by
      have k2 : (u / y1 + 1) * Y = u / y1 * Y + Y := by rw [Int.add_mul, Int.one_mul]
      have : u % y1 * 4294967296 + 4294967296 ≤ y1 * 4294967296 := by omega
      omega
    have := (Int.ediv_lt_iff_lt_mul (show 0 < Y by omega)).2 this
    omega
  · have : u < 4294967298 * y1 := by omega
    have := (Int.ediv_lt_iff_lt_mul (show 0 < y1 by omega)).2 this
    omega

theorem kbounds {u u1 Y y1 q r : Int} (y0 : Int) (k : KInv u u1 Y y1 q r) (c1 : 0 ≤ y0) (c2 : y0 ≤ 4294967295) : 0 ≤ q * y0 ∧ q * y0 ≤ 18446744073709551615 := by
  refine ⟨Int.mul_nonneg k.qp c1, ?_⟩
  have h1 : q * y0 ≤ 4294967297 * y0 := Int.mul_le_mul_of_nonneg_right k.q1 c1
  omega

/-- The test says whether the guess is too great. -/
theorem ktest {u u1 Y y1 q r : Int} (y0 : Int) (k : KInv u u1 Y y1 q r) (hY : Y = y1 * 4294967296 + y0) (hp : 0 < Y) : (4294967296 * r + u1 < q * y0) ↔ ((u * 4294967296 + u1) / Y < q) := by
  rw [Int.ediv_lt_iff_lt_mul hp, kmul q y1 y0 Y u r hY k.e]
  omega
theorem klimit (u u1 Y : Int) (uY : u < Y) (hp : 0 < Y) (d2 : u1 ≤ 4294967295) : (u * 4294967296 + u1) / Y < 4294967296 := by
  rw [Int.ediv_lt_iff_lt_mul hp]; omega
theorem kstep {u u1 Y y1 q r : Int} (k : KInv u u1 Y y1 q r) (h : (u * 4294967296 + u1) / Y < q) (hv : 0 ≤ (u * 4294967296 + u1) / Y) (b : r + y1 ≤ 4294967295) (b1 : 0 ≤ y1) : KInv u u1 Y y1 (q - 1) (r + y1) :=
  ⟨by have := k.e; rw [Int.sub_mul]; omega, by have := k.r0; omega, b, by omega, by have := k.q1; omega, by omega⟩
theorem kexit {u u1 Y y1 q r : Int} (y0 : Int) (k : KInv u u1 Y y1 q r) (hY : Y = y1 * 4294967296 + y0) (hp : 0 < Y) (h : (u * 4294967296 + u1) / Y < q) (b : 4294967296 ≤ r + y1) (d1 : 0 ≤ u1) (c1 : 0 ≤ y0) (c2 : y0 ≤ 4294967295) : (u * 4294967296 + u1) / Y = q - 1 := by
  have e := kmul (q - 1) y1 y0 Y u (r + y1) hY (by have := k.e; rw [Int.sub_mul]; omega)
  have h1 : (q - 1) * y0 ≤ 4294967296 * y0 := Int.mul_le_mul_of_nonneg_right (by have := k.q1; omega) c1
  have : ¬ (u * 4294967296 + u1) / Y < q - 1 := by
    rw [Int.ediv_lt_iff_lt_mul hp, e]; omega
  omega
theorem kend {u u1 Y y1 q r : Int} (k : KInv u u1 Y y1 q r) (h : ¬ (u * 4294967296 + u1) / Y < q) : q = (u * 4294967296 + u1) / Y := by
  have := k.q0; omega
theorem krest (V Y : Int) : V - V / Y * Y = V % Y := by
  have h := Int.mul_ediv_add_emod V Y
  have hc : Y * (V / Y) = V / Y * Y := Int.mul_comm _ _
  omega
theorem kwrap0 (u v q Y r : Int) (h : u * 4294967296 + v - q * Y = r) (r0 : 0 ≤ r) (r1 : r < 18446744073709551616) :
    ((u * 4294967296 % 18446744073709551616 + v) % 18446744073709551616 - q * Y % 18446744073709551616) % 18446744073709551616 = r := by
  generalize q * Y = p at *
  omega
/-- Two digits make the quotient. -/
theorem ktwo (u u1 u0 Y : Int) (hp : 0 < Y) : (u * 18446744073709551616 + u1 * 4294967296 + u0) / Y = (u * 4294967296 + u1) / Y * 4294967296 + ((u * 4294967296 + u1) % Y * 4294967296 + u0) / Y ∧ (u * 18446744073709551616 + u1 * 4294967296 + u0) % Y = ((u * 4294967296 + u1) % Y * 4294967296 + u0) % Y := by
  have h := Int.mul_ediv_add_emod (u * 4294967296 + u1) Y
  generalize (u * 4294967296 + u1) % Y = m at *
  generalize (u * 4294967296 + u1) / Y = q at *
  have e : u * 18446744073709551616 + u1 * 4294967296 + u0 = m * 4294967296 + u0 + Y * (q * 4294967296) := by
    rw [← Int.mul_assoc]; omega
  rw [e]
  refine ⟨?_, Int.add_mul_emod_self_left _ _ _⟩
  rw [Int.add_mul_ediv_left _ _ (by omega)]
  omega
/-- Moving both numbers up changes the quotient not at all, and moves the rest up. -/
theorem kshift (N y P : Int) (hP : 0 < P) : N * P / (y * P) = N / y ∧ N * P % (y * P) / P = N % y := by
  refine ⟨Int.mul_ediv_mul_of_pos_left N y hP, ?_⟩
  rw [Int.mul_comm N P, Int.mul_comm y P, Int.mul_emod_mul_of_pos _ _ hP]
  exact Int.mul_ediv_cancel_left _ (by omega)
end Go.Proofs.YtiahadohgfahcaaDoor
