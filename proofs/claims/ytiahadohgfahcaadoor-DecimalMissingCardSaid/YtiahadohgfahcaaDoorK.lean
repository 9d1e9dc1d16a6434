import Derived.Test.YtiahadohgfahcaaDoorI
import Derived.Test.YtiahadohgfahcaaDoorD
namespace Go.Proofs.YtiahadohgfahcaaDoor
set_option linter.unusedVariables false

theorem absI_neg (n : Int) : absI (-n) = absI n := by unfold absI; split <;> split <;> omega
theorem fit_neg (n : Int) : fit (-n) = fit n := by
  unfold fit
  rw [Bool.and_comm]
  congr 1 <;> (apply decide_eq_decide.2; omega)
theorem absI_mul (q d : Int) : absI (q * d) = absI q * absI d := by
  unfold absI
  rcases Int.lt_trichotomy q 0 with h | h | h
  · rcases Int.lt_trichotomy d 0 with k | k | k
    · have := Int.mul_pos_of_neg_of_neg h k
      rw [if_neg (by omega), if_pos h, if_pos k, Int.neg_mul_neg]
    · subst k; simp
    · have := Int.mul_neg_of_neg_of_pos h k
      rw [if_pos this, if_pos h, if_neg (by omega), Int.neg_mul]
  · subst h; simp
  · rcases Int.lt_trichotomy d 0 with k | k | k
    · have := Int.mul_neg_of_pos_of_neg h k
      rw [if_pos this, if_neg (by omega), if_pos k, Int.mul_neg]
    · subst k; simp
    · have := Int.mul_pos h k
      rw [if_neg (by omega), if_neg (by omega), if_neg (by omega)]

/-- The other sign. -/
theorem sc_flip (N z : Int) (s : Bool) : sc N z (!s) = (-(sc N z s).1, (sc N z s).2) := by
  unfold sc
  split
  · rfl
  · split <;> simp only <;> split <;> first | rfl | (cases s <;> simp)
theorem sc_zero (z : Int) (s : Bool) (h : 0 < z) : sc 0 z s = (0, true) := by
  unfold sc
  have e1 : (0 : Int) / z = 0 := Int.zero_ediv z
  have e2 : (0 : Int) % z = 0 := Int.zero_emod z
  rw [e1, e2, if_neg (show ¬ z ≤ 0 / 18446744073709551616 by omega), if_neg (show ¬ (z < 2 * 0 ∨ 2 * 0 = z ∧ (0 : Int) % 2 = 1) by omega)]
  cases s <;> rfl
theorem sc_bounds (N z : Int) (s : Bool) (h0 : 0 ≤ N) (h : 0 < z) : -1152921504606846976 ≤ (sc N z s).1 ∧ (sc N z s).1 ≤ 1152921504606846976 := by
  have q0 : 0 ≤ N / z := Int.ediv_nonneg h0 (by omega)
  unfold sc
  split
  · exact ⟨by decide, by decide⟩
  · simp only
    generalize N / z = q at *
    split <;> split <;> simp only <;> first | omega | (split <;> omega)

theorem addR_comm (a b : Int) : addR b a = addR a b := by
  unfold addR
  rw [Int.add_comm b a]
  split <;> split <;> simp_all
theorem mulR_comm (a b : Int) : mulR b a = mulR a b := by
  unfold mulR
  rw [Int.mul_comm (absI b), show (decide (b < 0) != decide (a < 0)) = (decide (a < 0) != decide (b < 0)) by cases decide (a < 0) <;> cases decide (b < 0) <;> rfl]
  by_cases h1 : fit a = true <;> by_cases h2 : fit b = true <;> simp [h1, h2]
theorem sign_neg (a : Int) (h : a ≠ 0) : decide (-a < 0) = !decide (a < 0) := by
  by_cases k : a < 0
  · rw [decide_eq_true k, decide_eq_false (by omega)]; rfl
  · rw [decide_eq_false k, decide_eq_true (by omega)]; rfl
theorem bne_flip (x y : Bool) : ((!x) != y) = !(x != y) := by cases x <;> cases y <;> rfl
theorem mulR_neg (a b : Int) : mulR (-a) b = (-(mulR a b).1, (mulR a b).2) := by
  unfold mulR
  rw [fit_neg, absI_neg]
  split
  · by_cases h : a = 0
    · subst h
      simp only [show absI 0 = 0 from by decide, Int.zero_mul]
      rw [sc_zero _ _ (by decide), sc_zero _ _ (by decide)]
      rfl
    · rw [sign_neg a h, bne_flip, sc_flip]
  · rfl
theorem divR_neg (a b : Int) : divR (-a) b = (-(divR a b).1, (divR a b).2) := by
  unfold divR
  rw [fit_neg, absI_neg]
  split
  · rename_i h2
    have hz := absI_pos h2.2.2
    by_cases h : a = 0
    · subst h
      simp only [show absI 0 = 0 from by decide, Int.zero_mul]
      rw [sc_zero _ _ (by omega), sc_zero _ _ (by omega)]
      rfl
    · rw [sign_neg a h, bne_flip, sc_flip]
  · rfl
theorem divR_negneg (a b : Int) : divR (-a) (-b) = divR a b := by
  unfold divR
  rw [fit_neg, fit_neg, absI_neg, absI_neg]
  by_cases hb : b = 0
  · subst hb; simp
  · have hb' : -b ≠ 0 := by omega
    have hz := absI_pos hb
    by_cases h : a = 0
    · subst h
      simp only [show absI 0 = 0 from by decide, Int.zero_mul]
      rw [sc_zero _ _ (by omega), sc_zero _ _ (by omega)]
      simp [hb]
    · rw [sign_neg a h, sign_neg b hb, show ((!decide (a < 0)) != !decide (b < 0)) = (decide (a < 0) != decide (b < 0)) by cases decide (a < 0) <;> cases decide (b < 0) <;> rfl]
      simp [hb]
theorem mulR_bounds (a b : Int) : -1152921504606846976 ≤ (mulR a b).1 ∧ (mulR a b).1 ≤ 1152921504606846976 := by
  unfold mulR
  split
  · exact sc_bounds _ _ _ (Int.mul_nonneg (absI_lo a) (absI_lo b)) (by decide)
  · exact ⟨by decide, by decide⟩
theorem divR_bounds (a b : Int) : -1152921504606846976 ≤ (divR a b).1 ∧ (divR a b).1 ≤ 1152921504606846976 := by
  unfold divR
  split
  · rename_i h
    have := absI_pos h.2.2
    exact sc_bounds _ _ _ (Int.mul_nonneg (absI_lo a) (by decide)) (by omega)
  · exact ⟨by decide, by decide⟩

/-- A multiple of the divisor. -/
theorem sc_exact (q z : Int) (s : Bool) (q0 : 0 ≤ q) (h : 0 < z) : sc (q * z) z s = if 1152921504606846976 < q then (0, false) else (if s = true then -q else q, true) := by
  have e1 : q * z / z = q := Int.mul_ediv_cancel q (by omega)
  have e2 : q * z % z = 0 := Int.mul_emod_left q z
  unfold sc
  rw [e1, e2]
  by_cases k : z ≤ q * z / 18446744073709551616
  · rw [if_pos k]
    have : 18446744073709551616 ≤ q := by
      have h1 : z * 18446744073709551616 ≤ q * z := by omega
      rw [Int.mul_comm q z] at h1
      exact Int.le_of_mul_le_mul_left h1 h
    rw [if_pos (by omega)]
  · rw [if_neg k, if_neg (show ¬ (z < 2 * 0 ∨ 2 * 0 = z ∧ q % 2 = 1) by omega)]

/-- No result: the quotient is too large. -/
theorem sc_none (N z : Int) (s : Bool) (N0 : 0 ≤ N) (h : 0 < z) (hf : (sc N z s).2 = false) : 1152921504606846976 * z < N := by
  have hdm := Int.mul_ediv_add_emod N z
  have r0 : 0 ≤ N % z := Int.emod_nonneg _ (by omega)
  have q0 : 0 ≤ N / z := Int.ediv_nonneg N0 (by omega)
  unfold sc at hf
  by_cases k : z ≤ N / 18446744073709551616
  · omega
  · rw [if_neg k] at hf
    simp only at hf
    have key : 1152921504606846976 < N / z ∨ (1152921504606846976 ≤ N / z ∧ 0 < N % z) := by
      apply Classical.byContradiction
      intro c
      by_cases g : z < 2 * (N % z) ∨ 2 * (N % z) = z ∧ N / z % 2 = 1
      · rw [if_pos g, if_neg (by omega)] at hf
        cases hf
      · rw [if_neg g, if_neg (by omega)] at hf
        cases hf
    generalize N / z = q at *
    generalize N % z = r at *
    rcases key with key | ⟨key, key2⟩
    · have : z * 1152921504606846977 ≤ z * q := Int.mul_le_mul_of_nonneg_left (by omega) (by omega)
      omega
    · have : z * 1152921504606846976 ≤ z * q := Int.mul_le_mul_of_nonneg_left key (by omega)
      omega
end Go.Proofs.YtiahadohgfahcaaDoor
