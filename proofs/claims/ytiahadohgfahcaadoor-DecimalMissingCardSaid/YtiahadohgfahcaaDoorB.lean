import Derived.Test.YtiahadohgfahcaaDoorDiv
namespace Go.Proofs.YtiahadohgfahcaaDoor
open Go.ChangeShapes Go.WideShapes Go.ChangeAt Go.RowKit
set_option linter.unusedVariables false

/-- The absolute value. -/
def absI (n : Int) : Int := if n < 0 then -n else n
/-- Is the absolute value at most MaxNumber? -/
def fit (n : Int) : Bool := decide (-1152921504606846976 ≤ n) && decide (n ≤ 1152921504606846976)
theorem fit_yes {n : Int} (h : fit n = true) : -1152921504606846976 ≤ n ∧ n ≤ 1152921504606846976 := by simpa [fit] using h
theorem fit_no {n : Int} (h : fit n = false) : ¬ (-1152921504606846976 ≤ n ∧ n ≤ 1152921504606846976) := by
  intro k; have : fit n = true := by simpa [fit] using k
  rw [this] at h; cases h
theorem fit_of {n : Int} (h : -1152921504606846976 ≤ n) (k : n ≤ 1152921504606846976) : fit n = true := by simp [fit, h, k]
/-- A result and its flag. -/
def pr (p : Int × Bool) : Value := .tuple #[.int .i64 p.1, .bool p.2]

theorem fits_any (n : Int) (w : World) (n1 : -9223372036854775808 ≤ n) (n2 : n ≤ 9223372036854775807) :
    Calls Tryd.prog 22 #[.int .i64 n] w fun e w' => e = .returned (.bool (fit n)) ∧ w = w' := by
  by_cases h1 : -1152921504606846976 ≤ n
  · by_cases h2 : n ≤ 1152921504606846976
    · rw [fit_of h1 h2]
      go_enter Tryd.func22, Tryd.ntmps22
      go_wp2
      go_ret
      exact ⟨rfl, rfl⟩
    · have e : fit n = false := by simp [fit, h2]
      rw [e]
      go_enter Tryd.func22, Tryd.ntmps22
      go_wp2
      go_ret
      exact ⟨rfl, rfl⟩
  · have e : fit n = false := by simp [fit, h1]
    rw [e]
    go_enter Tryd.func22, Tryd.ntmps22
    go_wp2
    go_ret
    exact ⟨rfl, rfl⟩

theorem inRange_any (n : Int) (w : World) (n1 : -9223372036854775808 ≤ n) (n2 : n ≤ 9223372036854775807) :
    Calls Tryd.prog 23 #[.int .i64 n] w fun e w' => e = .returned (.bool (fit n)) ∧ w = w' := by
  by_cases h1 : -1152921504606846976 ≤ n
  · by_cases h2 : n ≤ 1152921504606846976
    · rw [fit_of h1 h2]
      go_enter Tryd.func23, Tryd.ntmps23
      go_wp2
      go_ret
      exact ⟨rfl, rfl⟩
    · have e : fit n = false := by simp [fit, h2]
      rw [e]
      go_enter Tryd.func23, Tryd.ntmps23
      go_wp2
      go_ret
      exact ⟨rfl, rfl⟩
  · have e : fit n = false := by simp [fit, h1]
    rw [e]
    go_enter Tryd.func23, Tryd.ntmps23
    go_wp2
    go_ret
    exact ⟨rfl, rfl⟩

theorem is_any (x y : Int) (p q : Bool) (w : World) :
    Calls Tryd.prog 10 #[.int .i64 x, .bool p, .int .i64 y, .bool q] w fun e w' => e = .returned (.bool (decide (x = y) && (p == q))) ∧ w = w' := by
  by_cases h : x = y
  · subst h
    cases p <;> cases q <;>
    (go_enter Tryd.func10, Tryd.ntmps10; go_wp2; go_ret; exact ⟨by simp, rfl⟩)
  · have e1 : (x == y) = false := by simp; omega
    go_enter Tryd.func10, Tryd.ntmps10
    go_wp2
    go_ret
    exact ⟨by simp [h], rfl⟩

theorem magnitude_any (n : Int) (w : World) (n1 : -1152921504606846976 ≤ n) (n2 : n ≤ 1152921504606846976) :
    Calls Tryd.prog 30 #[.int .i64 n] w fun e w' => e = .returned (.tuple #[.int .u64 (absI n), .bool (decide (n < 0))]) ∧ w = w' := by
  by_cases h : n < 0
  · rw [show absI n = -n from if_pos h, decide_eq_true h]
    go_enter Tryd.func30, Tryd.ntmps30
    go_wp2
    go_ret2
    exact ⟨rfl, rfl⟩
  · rw [show absI n = n from if_neg h, decide_eq_false h]
    go_enter Tryd.func30, Tryd.ntmps30
    go_wp2
    go_ret2
    exact ⟨rfl, rfl⟩

/-- What Add returns. -/
def addR (a b : Int) : Int × Bool := if fit a = true ∧ fit b = true ∧ fit (a + b) = true then (a + b, true) else (0, false)

theorem kept_any (n : Int) (w : World) (n1 : -9223372036854775808 ≤ n) (n2 : n ≤ 9223372036854775807) :
    Calls Tryd.prog 24 #[.int .i64 n] w fun e w' => e = .returned (pr (if fit n = true then (n, true) else (0, false))) ∧ w = w' := by
  cases h : fit n
  all_goals
    go_enter Tryd.func24, Tryd.ntmps24
    go_wp2_with (go_at_call 23; refine (inRange_any _ _ (by omega) (by omega)).mono ?_; rintro e w' ⟨rfl, rfl⟩; rw [h])
    go_ret2
    exact ⟨rfl, rfl⟩

theorem add_any (a b : Int) (w : World) (a1 : -9223372036854775808 ≤ a) (a2 : a ≤ 9223372036854775807) (b1 : -9223372036854775808 ≤ b) (b2 : b ≤ 9223372036854775807) :
    Calls Tryd.prog 13 #[.int .i64 a, .int .i64 b] w fun e w' => e = .returned (pr (addR a b)) ∧ w = w' := by
  unfold addR
  cases hA : fit a
  · rw [if_neg (by simp)]
    go_enter Tryd.func13, Tryd.ntmps13
    go_wp2_with (go_at_call 22; refine (fits_any _ _ (by omega) (by omega)).mono ?_; rintro e w' ⟨rfl, rfl⟩; simp only [hA])
    go_ret2
    exact ⟨rfl, rfl⟩
  · cases hB : fit b
    · rw [if_neg (by simp)]
      go_enter Tryd.func13, Tryd.ntmps13
      go_wp2_with (go_at_call 22; refine (fits_any _ _ (by omega) (by omega)).mono ?_; rintro e w' ⟨rfl, rfl⟩; simp only [hA, hB])
      go_ret2
      exact ⟨rfl, rfl⟩
    · obtain ⟨x1, x2⟩ := fit_yes hA
      obtain ⟨y1, y2⟩ := fit_yes hB
      cases hC : fit (a + b)
      · rw [if_neg (by simp)]
        go_enter Tryd.func13, Tryd.ntmps13
        go_wp2_with (go_at_call 22; refine (fits_any _ _ (by omega) (by omega)).mono ?_; rintro e w' ⟨rfl, rfl⟩; simp only [hA, hB, hC])
        go_ret2
        exact ⟨rfl, rfl⟩
      · rw [if_pos (by simp)]
        go_enter Tryd.func13, Tryd.ntmps13
        go_wp2_with (go_at_call 22; refine (fits_any _ _ (by omega) (by omega)).mono ?_; rintro e w' ⟨rfl, rfl⟩; simp only [hA, hB, hC])
        go_ret2
        exact ⟨rfl, rfl⟩

/-- What Sub returns. -/
def subR (a b : Int) : Int × Bool := if fit a = true ∧ fit b = true ∧ fit (a - b) = true then (a - b, true) else (0, false)
theorem subR_add (a b : Int) (h : fit b = true) : addR a (-b) = subR a b := by
  obtain ⟨y1, y2⟩ := fit_yes h
  have e : fit (-b) = true := fit_of (by omega) (by omega)
  unfold addR subR
  rw [h, e, show a + -b = a - b by omega]

theorem sub_any (a b : Int) (w : World) (a1 : -9223372036854775808 ≤ a) (a2 : a ≤ 9223372036854775807) (b1 : -9223372036854775808 ≤ b) (b2 : b ≤ 9223372036854775807) :
    Calls Tryd.prog 15 #[.int .i64 a, .int .i64 b] w fun e w' => e = .returned (pr (subR a b)) ∧ w = w' := by
  cases hA : fit a
  · rw [show subR a b = (0, false) by unfold subR; rw [if_neg (by simp [hA])]]
    go_enter Tryd.func15, Tryd.ntmps15
    go_wp2_with (go_at_call 22; refine (fits_any _ _ (by omega) (by omega)).mono ?_; rintro e w' ⟨rfl, rfl⟩; simp only [hA])
    go_ret2
    exact ⟨rfl, rfl⟩
  · cases hB : fit b
    · rw [show subR a b = (0, false) by unfold subR; rw [if_neg (by simp [hB])]]
      go_enter Tryd.func15, Tryd.ntmps15
      go_wp2_with (go_at_call 22; refine (fits_any _ _ (by omega) (by omega)).mono ?_; rintro e w' ⟨rfl, rfl⟩; simp only [hA, hB])
      go_ret2
      exact ⟨rfl, rfl⟩
    · obtain ⟨y1, y2⟩ := fit_yes hB
      have A := fun w => add_any a (-b) w a1 a2 (by omega) (by omega)
      rw [subR_add a b hB] at A
      have A' := Lib.hid A
      clear A
      generalize subR a b = r at *
      obtain ⟨x, p⟩ := r
      go_enter Tryd.func15, Tryd.ntmps15
      go_wp2_with (first | (go_at_call 22; refine (fits_any _ _ (by omega) (by omega)).mono ?_; rintro e w' ⟨rfl, rfl⟩; simp only [hA, hB]) | (go_at_call 13; refine (A'.out _).mono ?_; rintro e w' ⟨rfl, rfl⟩; simp only [pr]))
      go_ret2
      exact ⟨rfl, rfl⟩

/-- What scaled returns, of the product of the absolute values, the divisor's and the sign. -/
def sc (N z : Int) (s : Bool) : Int × Bool :=
  if z ≤ N / 18446744073709551616 then (0, false) else
  let q := if z < 2 * (N % z) ∨ 2 * (N % z) = z ∧ N / z % 2 = 1 then (N / z + 1) % 18446744073709551616 else N / z
  if 1152921504606846976 < q then (0, false) else (if s = true then -q else q, true)

theorem and1 (x : Int) (h0 : 0 ≤ x) (h1 : x ≤ 18446744073709551615) : bits .and .u64 x 1 = x % 2 := by
  obtain ⟨a, rfl⟩ := Int.eq_ofNat_of_zero_le h0
  have h := bits_and_u64_nat a 1 (by omega) (by omega)
  rw [Nat.and_one_is_mod] at h
  exact h
end Go.Proofs.YtiahadohgfahcaaDoor
