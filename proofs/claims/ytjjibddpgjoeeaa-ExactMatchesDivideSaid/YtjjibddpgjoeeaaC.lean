import Derived.Test.YtjjibddpgjoeeaaB
namespace Go.Proofs.Ytjjibddpgjoeeaa
open Go.ChangeShapes Go.WideShapes Go.ChangeAt Go.RowKit

/-- The absolute value. -/
def absI (n : Int) : Int := if n < 0 then -n else n
/-- The quotient of absolute values, rounded half to even. -/
def upq (n y : Int) : Int := if n % y > y - n % y ∨ (n % y = y - n % y ∧ n / y % 2 = 1) then n / y + 1 else n / y
/-- What Divide returns. -/
def divRes (a d : Int) : Value := if d = 0 then .tuple #[.int .i64 0, .bool false] else divOut (decide (a < 0) != decide (d < 0)) (upq (absI a) (absI d))

theorem abs_halves (a c : Int) (hc : c = if norm a < 0 then -a else a) : IntKind.u64.wrap (whi c) = absI (norm a) / 18446744073709551616 ∧ wlo c = absI (norm a) % 18446744073709551616 := by
  rw [u64w]
  have h1 := norm_eqv a
  have l := norm_lo a; have u := norm_hi a
  unfold absI
  generalize norm a = n at *
  unfold eqv at h1
  split at hc <;> subst hc <;> (split <;> unfold whi wlo <;> omega)

theorem norm_int (d : Int) (h1 : -9223372036854775808 ≤ d) (h2 : d ≤ 9223372036854775807) : norm d = d := norm_in d (by omega) (by omega)
theorem neg_iff (a : Int) : (norm a < 0) = (whi a < 0) := by
  have := wlo_lo a; have := wlo_hi a; unfold norm; apply propext; omega

/-- Divide, as long as Div64 divides the absolute values. -/
theorem divide_of (a d : Int) (h1 : -9223372036854775808 ≤ d) (h2 : d ≤ 9223372036854775807)
    (D : absI (norm a) / 18446744073709551616 < absI d → ∀ w, Calls Try.prog 36 #[.int .u64 (absI (norm a) / 18446744073709551616), .int .u64 (absI (norm a) % 18446744073709551616), .int .u64 (absI d)] w fun e w' => e = .returned (.tuple #[.int .u64 (absI (norm a) / absI d), .int .u64 (absI (norm a) % absI d)]) ∧ Below w.heap.size w w') (w : World) :
    Calls Try.prog 18 #[.agg #[.int .i64 (whi a), .int .u64 (wlo a)], .int .i64 d] w fun e w' => e = .returned (divRes (norm a) d) ∧ Below w.heap.size w w' := by
  by_cases hd : d = 0
  · subst hd
    refine (divide_zero a w).mono ?_
    rintro e w' ⟨rfl, hb⟩
    exact ⟨by simp [divRes], hb⟩
  · have S1 := fun w => size_any a _ rfl w
    have O := fun w => of_any d w h1 h2
    have S2 := fun w => size_any d _ rfl w
    obtain ⟨a1, a2⟩ := abs_halves a _ rfl
    obtain ⟨d1, d2⟩ := abs_halves d _ rfl
    simp only [a1, a2] at S1
    simp only [d1, d2] at S2
    rw [norm_int d h1 h2] at S2
    have na : 0 ≤ absI (norm a) := by unfold absI; split <;> omega
    have nb : absI (norm a) ≤ 170141183460469231731687303715884105728 := by have := norm_lo a; have := norm_hi a; unfold absI; split <;> omega
    have nd : 1 ≤ absI d := by unfold absI; split <;> omega
    have ne : absI d ≤ 9223372036854775808 := by unfold absI; split <;> omega
    have e1 : absI d % 18446744073709551616 = absI d := by omega
    rw [e1] at S2
    have hs : (decide (norm a < 0) != decide (d < 0)) = (decide (whi a < 0) != decide (d < 0)) := by rw [show decide (norm a < 0) = decide (whi a < 0) from decide_eq_decide.2 (iff_of_eq (neg_iff a))]
    unfold divRes
    rw [if_neg hd]
    generalize hsv : (decide (norm a < 0) != decide (d < 0)) = s at *
    generalize hN : absI (norm a) = N at *
    generalize hY : absI d = Y at *
    by_cases hle : Y ≤ N / 18446744073709551616
    · refine (divide_great a d _ _ _ _ (by omega) (by omega) (by omega) (by omega) hd hle S1 O S2 w).mono ?_
      rintro e w' ⟨rfl, hb⟩
      refine ⟨?_, hb⟩
      rw [divOut_big]
      have hq : 18446744073709551616 ≤ N / Y := by
        rw [Int.le_ediv_iff_mul_le (by omega)]
        have : Y * 18446744073709551616 ≤ N := by omega
        rw [Int.mul_comm]; exact this
      unfold upq
      split <;> omega
    · have hq : N / Y < 18446744073709551616 := by
        rw [Int.ediv_lt_iff_lt_mul (by omega), Int.mul_comm]
        omega
      have q0 : 0 ≤ N / Y := Int.ediv_nonneg na (by omega)
      have r0 : 0 ≤ N % Y := Int.emod_nonneg _ (by omega)
      have r1 : N % Y < Y := Int.emod_lt_of_pos _ (by omega)
      have D' := D (by omega)
      unfold upq
      generalize N / Y = q at *
      generalize N % Y = r at *
      by_cases g1 : Y - r < r
      · rw [if_pos (Or.inl g1)]
        by_cases hm : q = 18446744073709551615
        · exact divide_gtmax a d _ _ Y _ q r s (by omega) (by omega) (by omega) (by omega) r0 r1 hd (by omega) (by omega) S1 O S2 D' hs g1 hm w
        · exact divide_gt a d _ _ Y _ q r s (by omega) (by omega) (by omega) (by omega) r0 r1 hd (by omega) (by omega) S1 O S2 D' hs g1 hm w
      · by_cases g2 : r = Y - r
        · by_cases g3 : q % 2 = 1
          · rw [if_pos (Or.inr ⟨g2, g3⟩)]
            by_cases hm : q = 18446744073709551615
            · exact divide_oddmax a d _ _ Y _ q r s (by omega) (by omega) (by omega) (by omega) r0 r1 hd (by omega) (by omega) S1 O S2 D' hs g2 hm w
            · exact divide_odd a d _ _ Y _ q r s (by omega) (by omega) (by omega) (by omega) r0 r1 hd (by omega) (by omega) S1 O S2 D' hs g2 g3 hm w
          · rw [if_neg (by omega)]
            exact divide_even a d _ _ Y _ q r s (by omega) (by omega) (by omega) (by omega) r0 r1 hd (by omega) (by omega) S1 O S2 D' hs g2 g3 w
        · rw [if_neg (by omega)]
          exact divide_lt a d _ _ Y _ q r s (by omega) (by omega) (by omega) (by omega) r0 r1 hd (by omega) (by omega) S1 O S2 D' hs (by omega) w

/-- Divide of a number whose absolute value is below 2^64. -/
theorem divide_small (a d : Int) (a1 : -18446744073709551616 < a) (a2 : a < 18446744073709551616) (h1 : -9223372036854775808 ≤ d) (h2 : d ≤ 9223372036854775807) (w : World) :
    Calls Try.prog 18 #[.agg #[.int .i64 (whi a), .int .u64 (wlo a)], .int .i64 d] w fun e w' => e = .returned (divRes a d) ∧ Below w.heap.size w w' := by
  have hn : norm a = a := norm_in a (by omega) (by omega)
  have := divide_of a d h1 h2 (by
    rw [hn]
    have b1 : 0 ≤ absI a := by unfold absI; split <;> omega
    have b2 : absI a < 18446744073709551616 := by unfold absI; split <;> omega
    have e0 : absI a / 18446744073709551616 = 0 := by omega
    have e1 : absI a % 18446744073709551616 = absI a := by omega
    rw [e0, e1]
    intro hd w
    exact div64_small _ _ b1 (by omega) (by omega) (by unfold absI; split <;> omega) w) w
  rw [hn] at this
  exact this
end Go.Proofs.Ytjjibddpgjoeeaa
