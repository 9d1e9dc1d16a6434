import Derived.Test.YtjjibddpgjoeeaaE
import Derived.Test.YtjjibddpgjoeeaaDiv
namespace Go.Proofs.Ytjjibddpgjoeeaa
open Go.ChangeShapes Go.WideShapes Go.ChangeAt Go.RowKit

/-- Divide, for all numbers. -/
theorem divide_any (a d : Int) (h1 : -9223372036854775808 ≤ d) (h2 : d ≤ 9223372036854775807) (w : World) :
    Calls Try.prog 18 #[.agg #[.int .i64 (whi a), .int .u64 (wlo a)], .int .i64 d] w fun e w' => e = .returned (divRes (norm a) d) ∧ Below w.heap.size w w' := by
  have na : 0 ≤ absI (norm a) := by unfold absI; split <;> omega
  have nb : absI (norm a) ≤ 170141183460469231731687303715884105728 := by have := norm_lo a; have := norm_hi a; unfold absI; split <;> omega
  have ne : absI d ≤ 9223372036854775808 := by unfold absI; split <;> omega
  refine divide_of a d h1 h2 ?_ w
  intro hlt w
  have h := div64_any (absI (norm a) / 18446744073709551616) (absI (norm a) % 18446744073709551616) (absI d) (by omega) hlt (by omega) (by omega) (by omega) w
  rw [show absI (norm a) / 18446744073709551616 * 18446744073709551616 + absI (norm a) % 18446744073709551616 = absI (norm a) by omega] at h
  exact h

theorem absI_mul (q d : Int) : absI (q * d) = absI q * absI d := by
  unfold absI
  by_cases hq : q < 0
  · by_cases hd : d < 0
    · have : 0 < q * d := Int.mul_pos_of_neg_of_neg hq hd
      rw [if_pos hq, if_pos hd, if_neg (by omega), Int.neg_mul_neg]
    · rw [if_pos hq, if_neg hd]
      by_cases h0 : d = 0
      · subst h0; simp
      · have : q * d < 0 := Int.mul_neg_of_neg_of_pos hq (by omega)
        rw [if_pos this, Int.neg_mul]
  · by_cases hd : d < 0
    · rw [if_neg hq, if_pos hd]
      by_cases h0 : q = 0
      · subst h0; simp
      · have : q * d < 0 := Int.mul_neg_of_pos_of_neg (by omega) hd
        rw [if_pos this, Int.mul_neg]
    · have : 0 ≤ q * d := Int.mul_nonneg (by omega) (by omega)
      rw [if_neg hq, if_neg hd, if_neg (by omega)]
theorem absI_nonneg (n : Int) : 0 ≤ absI n := by unfold absI; split <;> omega
theorem upq_exact (q y : Int) (hy : 0 < y) : upq (q * y) y = q := by
  unfold upq
  have e1 : q * y % y = 0 := Int.mul_emod_left q y
  have e2 : q * y / y = q := Int.mul_ediv_cancel q (by omega)
  rw [e1, e2, if_neg (by omega)]
theorem divRes_great (q d : Int) (h : q > 1152921504606846976 ∨ q < -1152921504606846976) : divRes (q * d) d = .tuple #[.int .i64 0, .bool false] := by
  unfold divRes
  by_cases hd : d = 0
  · rw [if_pos hd]
  · rw [if_neg hd, absI_mul, upq_exact _ _ (by unfold absI; split <;> omega), divOut_big]
    unfold absI; split <;> omega
theorem sign_mul (q d : Int) (hd : d ≠ 0) (hq : q ≠ 0) : (decide (q * d < 0) != decide (d < 0)) = decide (q < 0) := by
  by_cases h1 : q < 0 <;> by_cases h2 : d < 0
  · have : 0 < q * d := Int.mul_pos_of_neg_of_neg h1 h2
    have h3 : ¬ q * d < 0 := by omega
    simp [h1, h2, h3]
  · have : q * d < 0 := Int.mul_neg_of_neg_of_pos h1 (by omega)
    simp [h1, h2, this]
  · have : q * d < 0 := Int.mul_neg_of_pos_of_neg (by omega) h2
    simp [h1, h2, this]
  · have : 0 < q * d := Int.mul_pos (by omega) (by omega)
    have h3 : ¬ q * d < 0 := by omega
    simp [h1, h2, h3]
theorem divRes_fits (q d : Int) (hd : d ≠ 0) (h1 : -1152921504606846976 ≤ q) (h2 : q ≤ 1152921504606846976) : divRes (q * d) d = .tuple #[.int .i64 q, .bool true] := by
  unfold divRes
  rw [if_neg hd, absI_mul, upq_exact _ _ (by unfold absI; split <;> omega)]
  unfold divOut
  rw [if_neg (by unfold absI; split <;> omega)]
  by_cases hq : q = 0
  · subst hq; simp [absI]
  · rw [sign_mul q d hd hq]
    unfold absI
    by_cases h : q < 0 <;> simp [h]

set_option maxHeartbeats 1000000 in
theorem dividesProducts_walk (q d : Int) (q1 : -9223372036854775808 ≤ q) (q2 : q ≤ 9223372036854775807) (d1 : -9223372036854775808 ≤ d) (d2 : d ≤ 9223372036854775807) (w : World) :
    Calls Try.prog 6 #[.int .i64 q, .int .i64 d] w fun e w' => e = .returned (.bool true) ∧ Below w.heap.size w w' := by
  have m := Lib.hid (mul_any q d q1 q2 d1 d2)
  have hn : norm (q * d) = q * d := by
    have b1 : -(9223372036854775808 * 9223372036854775808) ≤ q * d ∧ q * d ≤ 9223372036854775808 * 9223372036854775808 := by
      have e : absI (q * d) ≤ 9223372036854775808 * 9223372036854775808 := by
        rw [absI_mul]
        exact Int.mul_le_mul (by unfold absI; split <;> omega) (by unfold absI; split <;> omega) (absI_nonneg d) (by decide)
      unfold absI at e; split at e <;> omega
    exact norm_in _ (by omega) (by omega)
  have dv : ∀ w, Calls Try.prog 18 #[.agg #[.int .i64 (whi (q * d)), .int .u64 (wlo (q * d))], .int .i64 d] w fun e w' => e = .returned (divRes (q * d) d) ∧ Below w.heap.size w w' := by
    intro w; have h := divide_any (q * d) d d1 d2 w; rw [hn] at h; exact h
  clear hn
  by_cases hd : d = 0
  · subst hd
    rw [show divRes (q * 0) 0 = .tuple #[.int .i64 0, .bool false] by simp [divRes], Int.mul_zero] at dv
    have dv' := Lib.hid dv; clear dv
    have m' := m.out; clear m
    rw [Int.mul_zero] at m'
    have m := Lib.hid m'; clear m'
    go_enter Try.func6, Try.ntmps6
    go_wp2_with fail
    refine (example_any _).mono ?_
    rintro e w1 ⟨rfl, hb1⟩
    go_wp2_with fail
    refine (m.out _).mono ?_
    rintro e w2 ⟨rfl, hb2⟩
    go_wp2_with fail
    refine (dv'.out _).mono ?_
    rintro e w3 ⟨rfl, hb3⟩
    go_wp2_with fail
    go_ret
    exact ⟨rfl, (hb1.trans (hb2.mono hb1.size)).trans (hb3.mono (hb1.trans (hb2.mono hb1.size)).size)⟩
  · have hd' : (d == 0) = false := by simp; omega
    by_cases h1 : 1152921504606846976 < q
    · rw [divRes_great q d (by omega)] at dv
      have dv' := Lib.hid dv; clear dv
      go_enter Try.func6, Try.ntmps6
      go_wp2_with fail
      refine (example_any _).mono ?_
      rintro e w1 ⟨rfl, hb1⟩
      go_wp2_with fail
      refine (m.out _).mono ?_
      rintro e w2 ⟨rfl, hb2⟩
      go_wp2_with fail
      refine (dv'.out _).mono ?_
      rintro e w3 ⟨rfl, hb3⟩
      go_wp2_with fail
      go_ret
      exact ⟨rfl, (hb1.trans (hb2.mono hb1.size)).trans (hb3.mono (hb1.trans (hb2.mono hb1.size)).size)⟩
    · by_cases h2 : q < -1152921504606846976
      · rw [divRes_great q d (by omega)] at dv
        have dv' := Lib.hid dv; clear dv
        go_enter Try.func6, Try.ntmps6
        go_wp2_with fail
        refine (example_any _).mono ?_
        rintro e w1 ⟨rfl, hb1⟩
        go_wp2_with fail
        refine (m.out _).mono ?_
        rintro e w2 ⟨rfl, hb2⟩
        go_wp2_with fail
        refine (dv'.out _).mono ?_
        rintro e w3 ⟨rfl, hb3⟩
        go_wp2_with fail
        go_ret
        exact ⟨rfl, (hb1.trans (hb2.mono hb1.size)).trans (hb3.mono (hb1.trans (hb2.mono hb1.size)).size)⟩
      · rw [divRes_fits q d hd (by omega) (by omega)] at dv
        have dv' := Lib.hid dv; clear dv
        go_enter Try.func6, Try.ntmps6
        go_wp2_with fail
        refine (example_any _).mono ?_
        rintro e w1 ⟨rfl, hb1⟩
        go_wp2_with fail
        refine (m.out _).mono ?_
        rintro e w2 ⟨rfl, hb2⟩
        go_wp2_with fail
        refine (dv'.out _).mono ?_
        rintro e w3 ⟨rfl, hb3⟩
        go_wp2_with fail
        go_ret
        exact ⟨rfl, (hb1.trans (hb2.mono hb1.size)).trans (hb3.mono (hb1.trans (hb2.mono hb1.size)).size)⟩
end Go.Proofs.Ytjjibddpgjoeeaa
