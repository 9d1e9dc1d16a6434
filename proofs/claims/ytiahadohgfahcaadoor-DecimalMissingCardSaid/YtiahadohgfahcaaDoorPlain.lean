/-
  Plain arithmetic of 128-bit integers in two's complement: the two halves of an integer modulo 2^128, and how sums, differences and products of numbers are made of halves. No program in sight.
-/
namespace Go.Proofs.YtiahadohgfahcaaDoor

/-- The higher half (signed) and the lower half (unsigned) of an integer modulo 2^128. -/
def whi (n : Int) : Int := (n / 18446744073709551616 + 9223372036854775808) % 18446744073709551616 - 9223372036854775808
def wlo (n : Int) : Int := n % 18446744073709551616
/-- Two integers are the same number modulo 2^128. -/
def eqv (a b : Int) : Prop := a % 340282366920938463463374607431768211456 = b % 340282366920938463463374607431768211456

theorem whi_lo (n : Int) : -9223372036854775808 ≤ whi n := by unfold whi; omega
theorem whi_hi (n : Int) : whi n ≤ 9223372036854775807 := by unfold whi; omega
theorem wlo_lo (n : Int) : 0 ≤ wlo n := by unfold wlo; omega
theorem wlo_hi (n : Int) : wlo n ≤ 18446744073709551615 := by unfold wlo; omega

theorem eqv_refl (a : Int) : eqv a a := rfl
theorem eqv_symm {a b : Int} (h : eqv a b) : eqv b a := Eq.symm h
theorem eqv_trans {a b c : Int} (h : eqv a b) (k : eqv b c) : eqv a c := Eq.trans h k
theorem eqv_of {a b : Int} (h : a = b) : eqv a b := by rw [h]; rfl

theorem halves_of (h l : Int) (h1 : -9223372036854775808 ≤ h) (h2 : h ≤ 9223372036854775807) (l1 : 0 ≤ l) (l2 : l ≤ 18446744073709551615) :
    whi (h * 18446744073709551616 + l) = h ∧ wlo (h * 18446744073709551616 + l) = l := by
  unfold whi wlo; omega

/-- The two halves decide the number modulo 2^128, and are decided by it. -/
theorem halves_eqv {a b : Int} (h : eqv a b) : whi a = whi b ∧ wlo a = wlo b := by
  unfold eqv at h; unfold whi wlo; omega
theorem eqv_halves {a b : Int} (h : whi a = whi b) (l : wlo a = wlo b) : eqv a b := by
  unfold whi at h; unfold wlo at l; unfold eqv; omega
theorem whole (a : Int) : eqv (whi a * 18446744073709551616 + wlo a) a := by
  unfold whi wlo eqv; omega

/-- What Add64's two calls give. -/
theorem add_lo (a b : Int) : (wlo a + wlo b + 0) % 18446744073709551616 = wlo (a + b) := by unfold wlo; omega
theorem add_hi (a b : Int) : ((whi a % 18446744073709551616 + whi b % 18446744073709551616 + (wlo a + wlo b + 0) / 18446744073709551616) % 18446744073709551616 + 9223372036854775808) % 18446744073709551616 - 9223372036854775808 = whi (a + b) := by
  unfold whi wlo; omega
theorem sub_lo (a b : Int) : (wlo a + 18446744073709551616 - wlo b - 0) % 18446744073709551616 = wlo (a - b) := by unfold wlo; omega
theorem sub_hi (a b c : Int) (h : c = if wlo a < wlo b + 0 then 1 else 0) : ((whi a % 18446744073709551616 + 18446744073709551616 - whi b % 18446744073709551616 - c) % 18446744073709551616 + 9223372036854775808) % 18446744073709551616 - 9223372036854775808 = whi (a - b) := by
  subst h; unfold whi wlo; split <;> omega
theorem eqv_add {a b c d : Int} (h : eqv a b) (k : eqv c d) : eqv (a + c) (b + d) := by
  unfold eqv at *; omega
theorem eqv_sub {a b c d : Int} (h : eqv a b) (k : eqv c d) : eqv (a - c) (b - d) := by
  unfold eqv at *; omega
theorem eqv_mul {a b : Int} (h : eqv a b) (n : Int) : eqv (a * n) (b * n) := by
  unfold eqv at *
  rw [Int.mul_emod, h, ← Int.mul_emod]

/-- What Scale gives: Mul64 of the lower half and the number without its sign, and the product of the higher half; minus the lower half where the number is negative. -/
theorem scale_lo (a n : Int) : wlo a * (n % 18446744073709551616) % 18446744073709551616 = wlo (a * n) := by
  unfold wlo; rw [← Int.mul_emod]
/-- A number is h K + l + m K K; its product by n = u - s K. -/
theorem scale_key (h l u s K : Int) : (h * K + l) * (u - s * K) = (h * u - l * s - h * s * K) * K + l * u := by
  simp only [Int.mul_sub, Int.sub_mul, Int.add_mul]
  rw [show h * K * (s * K) = h * s * K * K by rw [← Int.mul_assoc, Int.mul_right_comm h K s], show h * K * u = h * u * K by rw [Int.mul_right_comm], show l * (s * K) = l * s * K by rw [Int.mul_assoc]]
  omega
theorem whi_at (x y : Int) : whi (x * 18446744073709551616 + y) = (x + y / 18446744073709551616 + 9223372036854775808) % 18446744073709551616 - 9223372036854775808 := by
  unfold whi; omega
theorem scale_hi (a n s : Int) (hs : n = n % 18446744073709551616 - s * 18446744073709551616) :
    (wlo a * (n % 18446744073709551616) / 18446744073709551616 + whi a * (n % 18446744073709551616) - wlo a * s + 9223372036854775808) % 18446744073709551616 - 9223372036854775808 = whi (a * n) := by
  have e : eqv (a * n) ((whi a * 18446744073709551616 + wlo a) * n) := eqv_mul (eqv_symm (whole a)) n
  rw [(halves_eqv e).1]
  have k := scale_key (whi a) (wlo a) (n % 18446744073709551616) s 18446744073709551616
  rw [← hs] at k
  rw [k, whi_at]
  generalize whi a * (n % 18446744073709551616) = p
  generalize wlo a * (n % 18446744073709551616) = q
  generalize wlo a * s = r
  generalize whi a * s = t
  omega

theorem emod_of_dvd_sub {x y K : Int} (k : Int) (h : x = y + K * k) : x % K = y % K := by
  rw [h, Int.add_mul_emod_self_left]
/-- Of a product only the factor's rest counts. -/
theorem mul_rest (h n : Int) : (h % 18446744073709551616 * (n % 18446744073709551616)) % 18446744073709551616 = (h * (n % 18446744073709551616)) % 18446744073709551616 := by
  rw [Int.mul_emod, Int.emod_emod_of_dvd _ (Int.dvd_refl _), ← Int.mul_emod]
theorem scale_hi_neg (a n : Int) (h1 : -9223372036854775808 ≤ n) (hn : n < 0) :
    ((((wlo a * (n % 18446744073709551616) / 18446744073709551616 + (whi a % 18446744073709551616 * (n % 18446744073709551616)) % 18446744073709551616) % 18446744073709551616 - wlo a) % 18446744073709551616) + 9223372036854775808) % 18446744073709551616 - 9223372036854775808 = whi (a * n) := by
  rw [mul_rest, ← scale_hi a n 1 (by omega)]
  generalize whi a * (n % 18446744073709551616) = p
  generalize wlo a * (n % 18446744073709551616) = q
  omega
theorem scale_hi_pos (a n : Int) (h1 : n ≤ 9223372036854775807) (hn : 0 ≤ n) :
    (((wlo a * (n % 18446744073709551616) / 18446744073709551616 + (whi a % 18446744073709551616 * (n % 18446744073709551616)) % 18446744073709551616) % 18446744073709551616) + 9223372036854775808) % 18446744073709551616 - 9223372036854775808 = whi (a * n) := by
  rw [mul_rest, ← scale_hi a n 0 (by omega)]
  generalize whi a * (n % 18446744073709551616) = p
  generalize wlo a * (n % 18446744073709551616) = q
  omega

/-- The number with its sign that stands for an integer modulo 2^128. -/
def norm (n : Int) : Int := whi n * 18446744073709551616 + wlo n
theorem norm_eqv (n : Int) : eqv (norm n) n := whole n
theorem norm_lo (n : Int) : -170141183460469231731687303715884105728 ≤ norm n := by unfold norm whi wlo; omega
theorem norm_hi (n : Int) : norm n < 170141183460469231731687303715884105728 := by unfold norm whi wlo; omega
theorem norm_in (n : Int) (h : -170141183460469231731687303715884105728 ≤ n) (k : n < 170141183460469231731687303715884105728) : norm n = n := by
  unfold norm whi wlo; omega
theorem norm_lt (a b : Int) : (norm a < norm b) ↔ (whi a < whi b ∨ whi a = whi b ∧ wlo a < wlo b) := by
  have := wlo_lo a; have := wlo_hi a; have := wlo_lo b; have := wlo_hi b
  unfold norm; omega
theorem norm_eq (a b : Int) : (norm a = norm b) ↔ (whi a = whi b ∧ wlo a = wlo b) := by
  have := wlo_lo a; have := wlo_hi a; have := wlo_lo b; have := wlo_hi b
  unfold norm; omega
/-- What Compare returns. -/
def cmp3 (a b : Int) : Int := if a < b then -1 else if a = b then 0 else 1
end Go.Proofs.YtiahadohgfahcaaDoor
