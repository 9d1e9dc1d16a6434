import Derived.Test.YtiahadohgfahcaaDoorC
import Derived.Test.YtiahadohgfahcaaDoorCB
import Derived.Test.YtiahadohgfahcaaDoorCC
namespace Go.Proofs.YtiahadohgfahcaaDoor
open Go.ChangeShapes Go.WideShapes Go.ChangeAt Go.RowKit
set_option linter.unusedVariables false

theorem absI_lo (n : Int) : 0 ≤ absI n := by unfold absI; split <;> omega
theorem absI_hi {n : Int} (h : -1152921504606846976 ≤ n) (k : n ≤ 1152921504606846976) : absI n ≤ 1152921504606846976 := by unfold absI; split <;> omega
theorem absI_pos {n : Int} (h : n ≠ 0) : 1 ≤ absI n := by unfold absI; split <;> omega

theorem scaled_any (a b d : Int) (a1 : -1152921504606846976 ≤ a) (a2 : a ≤ 1152921504606846976) (b1 : -1152921504606846976 ≤ b) (b2 : b ≤ 1152921504606846976) (d1 : -1152921504606846976 ≤ d) (d2 : d ≤ 1152921504606846976) (hd : d ≠ 0) (w : World) :
    Calls Tryd.prog 25 #[.int .i64 a, .int .i64 b, .int .i64 d] w fun e w' => e = .returned (pr (sc (absI a * absI b) (absI d) ((decide (a < 0) != decide (b < 0)) != decide (d < 0)))) ∧ Below w.heap.size w w' := by
  have MA := fun w => magnitude_any a w a1 a2
  have MB := fun w => magnitude_any b w b1 b2
  have MD := fun w => magnitude_any d w d1 d2
  have x0 := absI_lo a; have x1 := absI_hi a1 a2
  have y0 := absI_lo b; have y1 := absI_hi b1 b2
  have z0 := absI_pos hd; have z1 := absI_hi d1 d2
  have MU := fun w => mul64_any (absI a) (absI b) x0 (by omega) y0 (by omega) w
  have np := Int.mul_nonneg x0 y0
  generalize absI a = x at *
  generalize absI b = y at *
  generalize absI d = z at *
  generalize decide (a < 0) = s1 at *
  generalize decide (b < 0) = s2 at *
  generalize decide (d < 0) = s3 at *
  have pn : x * y ≤ 1152921504606846976 * 1152921504606846976 := Int.mul_le_mul x1 y1 y0 (by omega)
  generalize x * y = N at *
  have DV := fun (h : N / 18446744073709551616 < z) w => div64_any (N / 18446744073709551616) (N % 18446744073709551616) z (by omega) h (by omega) (by omega) (by omega) w
  rw [show N / 18446744073709551616 * 18446744073709551616 + N % 18446744073709551616 = N by omega] at DV
  unfold sc
  by_cases hle : z ≤ N / 18446744073709551616
  · rw [if_pos hle]
    exact scaled_great x y z _ _ (N / z) (N % z) s1 s2 s3 a b d x0 x1 y0 y1 z0 z1 (by omega) (by omega) (by omega) (by omega) MA MB MD MU hle w
  · rw [if_neg hle]
    have hlt : N / 18446744073709551616 < z := by omega
    have DV' := DV hlt
    have hq : N / z < 18446744073709551616 := by
      rw [Int.ediv_lt_iff_lt_mul (by omega), Int.mul_comm]
      omega
    have q0 : 0 ≤ N / z := Int.ediv_nonneg np (by omega)
    have r0 : 0 ≤ N % z := Int.emod_nonneg _ (by omega)
    have r1 : N % z < z := Int.emod_lt_of_pos _ (by omega)
    clear DV
    have l0 : 0 ≤ N / 18446744073709551616 := by omega
    have l1 : N / 18446744073709551616 ≤ 18446744073709551615 := by omega
    have l2 : 0 ≤ N % 18446744073709551616 := by omega
    have l3 : N % 18446744073709551616 ≤ 18446744073709551615 := by omega
    generalize N / 18446744073709551616 = hi at *
    generalize N % 18446744073709551616 = lo at *
    generalize N / z = q at *
    generalize N % z = r at *
    have pf : ∀ q : Int, pr (if ((s1 != s2) != s3) = true then -q else q, true) = .tuple #[.int .i64 (if (s1 != s2) != s3 then -q else q), .bool true] := fun q => rfl
    by_cases g1 : z < 2 * r
    · rw [if_pos (Or.inl g1)]
      by_cases hm : q = 18446744073709551615
      · have := scaled_gt_max x y z hi lo q r s1 s2 s3 a b d x0 x1 y0 y1 z0 z1 l0 l1 l2 l3 MA MB MD MU hlt q0 (by omega) r0 r1 DV' g1 hm w
        subst hm
        exact this
      · rw [show (q + 1) % 18446744073709551616 = q + 1 by omega]
        by_cases hb : 1152921504606846976 < q + 1
        · simp only [if_pos hb]
          exact scaled_gt_big x y z hi lo q r s1 s2 s3 a b d x0 x1 y0 y1 z0 z1 l0 l1 l2 l3 MA MB MD MU hlt q0 (by omega) r0 r1 DV' g1 hm hb w
        · simp only [if_neg hb]
          exact scaled_gt_fits x y z hi lo q r s1 s2 s3 a b d x0 x1 y0 y1 z0 z1 l0 l1 l2 l3 MA MB MD MU hlt q0 (by omega) r0 r1 DV' g1 hb w
    · by_cases g2 : 2 * r = z
      · by_cases g3 : q % 2 = 1
        · rw [if_pos (Or.inr ⟨g2, g3⟩)]
          by_cases hm : q = 18446744073709551615
          · have := scaled_odd_max x y z hi lo q r s1 s2 s3 a b d x0 x1 y0 y1 z0 z1 l0 l1 l2 l3 MA MB MD MU hlt q0 (by omega) r0 r1 DV' g2 g3 hm w
            subst hm
            exact this
          · rw [show (q + 1) % 18446744073709551616 = q + 1 by omega]
            by_cases hb : 1152921504606846976 < q + 1
            · simp only [if_pos hb]
              exact scaled_odd_big x y z hi lo q r s1 s2 s3 a b d x0 x1 y0 y1 z0 z1 l0 l1 l2 l3 MA MB MD MU hlt q0 (by omega) r0 r1 DV' g2 g3 hm hb w
            · simp only [if_neg hb]
              exact scaled_odd_fits x y z hi lo q r s1 s2 s3 a b d x0 x1 y0 y1 z0 z1 l0 l1 l2 l3 MA MB MD MU hlt q0 (by omega) r0 r1 DV' g2 g3 hb w
        · rw [if_neg (show ¬ (z < 2 * r ∨ 2 * r = z ∧ q % 2 = 1) by omega)]
          by_cases hb : 1152921504606846976 < q
          · simp only [if_pos hb]
            exact scaled_even_big x y z hi lo q r s1 s2 s3 a b d x0 x1 y0 y1 z0 z1 l0 l1 l2 l3 MA MB MD MU hlt q0 (by omega) r0 r1 DV' g2 g3 hb w
          · simp only [if_neg hb]
            exact scaled_even_fits x y z hi lo q r s1 s2 s3 a b d x0 x1 y0 y1 z0 z1 l0 l1 l2 l3 MA MB MD MU hlt q0 (by omega) r0 r1 DV' g2 g3 hb w
      · rw [if_neg (show ¬ (z < 2 * r ∨ 2 * r = z ∧ q % 2 = 1) by omega)]
        by_cases hb : 1152921504606846976 < q
        · simp only [if_pos hb]
          exact scaled_lt_big x y z hi lo q r s1 s2 s3 a b d x0 x1 y0 y1 z0 z1 l0 l1 l2 l3 MA MB MD MU hlt q0 (by omega) r0 r1 DV' (by omega) hb w
        · simp only [if_neg hb]
          exact scaled_lt_fits x y z hi lo q r s1 s2 s3 a b d x0 x1 y0 y1 z0 z1 l0 l1 l2 l3 MA MB MD MU hlt q0 (by omega) r0 r1 DV' (by omega) hb w

/-- What Mul returns. -/
def mulR (a b : Int) : Int × Bool := if fit a = true ∧ fit b = true then sc (absI a * absI b) 1000000 (decide (a < 0) != decide (b < 0)) else (0, false)
/-- What Div returns. -/
def divR (a b : Int) : Int × Bool := if fit a = true ∧ fit b = true ∧ b ≠ 0 then sc (absI a * 1000000) (absI b) (decide (a < 0) != decide (b < 0)) else (0, false)

theorem mul_fix (a b : Int) (h1 : fit a = true) (h2 : fit b = true) : sc (absI a * absI b) (absI 1000000) ((decide (a < 0) != decide (b < 0)) != decide ((1000000 : Int) < 0)) = mulR a b := by
  unfold mulR
  rw [if_pos ⟨h1, h2⟩, show absI 1000000 = 1000000 from by decide, show decide ((1000000 : Int) < 0) = false from by decide, Bool.bne_false]
theorem div_fix (a b : Int) (h1 : fit a = true) (h2 : fit b = true) (h3 : b ≠ 0) : sc (absI a * absI 1000000) (absI b) ((decide (a < 0) != decide ((1000000 : Int) < 0)) != decide (b < 0)) = divR a b := by
  unfold divR
  rw [if_pos ⟨h1, h2, h3⟩, show absI 1000000 = 1000000 from by decide, show decide ((1000000 : Int) < 0) = false from by decide, Bool.bne_false]

theorem mulD_any (a b : Int) (w : World) (a1 : -9223372036854775808 ≤ a) (a2 : a ≤ 9223372036854775807) (b1 : -9223372036854775808 ≤ b) (b2 : b ≤ 9223372036854775807) :
    Calls Tryd.prog 17 #[.int .i64 a, .int .i64 b] w fun e w' => e = .returned (pr (mulR a b)) ∧ Below w.heap.size w w' := by
  cases hA : fit a
  · rw [show mulR a b = (0, false) by unfold mulR; rw [if_neg (by simp [hA])]]
    go_enter Tryd.func17, Tryd.ntmps17
    go_wp2_with (go_at_call 22; refine (fits_any _ _ (by omega) (by omega)).mono ?_; rintro e w' ⟨rfl, rfl⟩; simp only [hA])
    go_ret2
    exact ⟨rfl, Below.refl _ _⟩
  · cases hB : fit b
    · rw [show mulR a b = (0, false) by unfold mulR; rw [if_neg (by simp [hB])]]
      go_enter Tryd.func17, Tryd.ntmps17
      go_wp2_with (go_at_call 22; refine (fits_any _ _ (by omega) (by omega)).mono ?_; rintro e w' ⟨rfl, rfl⟩; simp only [hA, hB])
      go_ret2
      exact ⟨rfl, Below.refl _ _⟩
    · obtain ⟨x1, x2⟩ := fit_yes hA
      obtain ⟨y1, y2⟩ := fit_yes hB
      have A := fun w => scaled_any a b 1000000 x1 x2 y1 y2 (by omega) (by omega) (by omega) w
      simp only [mul_fix a b hA hB] at A
      have A' := Lib.hid A
      clear A
      generalize mulR a b = r at *
      obtain ⟨x, p⟩ := r
      go_enter Tryd.func17, Tryd.ntmps17
      go_wp2_with (first | (go_at_call 22; refine (fits_any _ _ (by omega) (by omega)).mono ?_; rintro e w' ⟨rfl, rfl⟩; simp only [hA, hB]))
      refine (A'.out _).mono ?_
      rintro e w4 ⟨rfl, hb4⟩
      simp only [pr]
      go_wp2_with fail
      go_ret2
      exact ⟨rfl, hb4⟩

theorem divD_any (a b : Int) (w : World) (a1 : -9223372036854775808 ≤ a) (a2 : a ≤ 9223372036854775807) (b1 : -9223372036854775808 ≤ b) (b2 : b ≤ 9223372036854775807) :
    Calls Tryd.prog 18 #[.int .i64 a, .int .i64 b] w fun e w' => e = .returned (pr (divR a b)) ∧ Below w.heap.size w w' := by
  cases hA : fit a
  · rw [show divR a b = (0, false) by unfold divR; rw [if_neg (by simp [hA])]]
    go_enter Tryd.func18, Tryd.ntmps18
    go_wp2_with (go_at_call 22; refine (fits_any _ _ (by omega) (by omega)).mono ?_; rintro e w' ⟨rfl, rfl⟩; simp only [hA])
    go_ret2
    exact ⟨rfl, Below.refl _ _⟩
  · cases hB : fit b
    · rw [show divR a b = (0, false) by unfold divR; rw [if_neg (by simp [hB])]]
      go_enter Tryd.func18, Tryd.ntmps18
      go_wp2_with (go_at_call 22; refine (fits_any _ _ (by omega) (by omega)).mono ?_; rintro e w' ⟨rfl, rfl⟩; simp only [hA, hB])
      go_ret2
      exact ⟨rfl, Below.refl _ _⟩
    · obtain ⟨x1, x2⟩ := fit_yes hA
      obtain ⟨y1, y2⟩ := fit_yes hB
      by_cases hz : b = 0
      · subst hz
        rw [show divR a 0 = (0, false) by unfold divR; rw [if_neg (by simp)]]
        go_enter Tryd.func18, Tryd.ntmps18
        go_wp2_with (go_at_call 22; refine (fits_any _ _ (by omega) (by omega)).mono ?_; rintro e w' ⟨rfl, rfl⟩; simp only [hA, hB])
        go_ret2
        exact ⟨rfl, Below.refl _ _⟩
      · have e1 : (b == 0) = false := by simp; omega
        have A := fun w => scaled_any a 1000000 b x1 x2 (by omega) (by omega) y1 y2 hz w
        simp only [div_fix a b hA hB hz] at A
        have A' := Lib.hid A
        clear A
        generalize divR a b = r at *
        obtain ⟨x, p⟩ := r
        go_enter Tryd.func18, Tryd.ntmps18
        go_wp2_with (first | (go_at_call 22; refine (fits_any _ _ (by omega) (by omega)).mono ?_; rintro e w' ⟨rfl, rfl⟩; simp only [hA, hB]))
        refine (A'.out _).mono ?_
        rintro e w4 ⟨rfl, hb4⟩
        simp only [pr]
        go_wp2_with fail
        go_ret2
        exact ⟨rfl, hb4⟩

/-- What FromInt returns. -/
def fromR (n : Int) : Int × Bool := if -1152921504606 ≤ n ∧ n ≤ 1152921504606 then (n * 1000000, true) else (0, false)

theorem from_any (n : Int) (w : World) (n1 : -9223372036854775808 ≤ n) (n2 : n ≤ 9223372036854775807) :
    Calls Tryd.prog 8 #[.int .i64 n] w fun e w' => e = .returned (pr (fromR n)) ∧ w = w' := by
  unfold fromR
  by_cases h1 : -1152921504606 ≤ n
  · by_cases h2 : n ≤ 1152921504606
    · rw [if_pos ⟨h1, h2⟩]
      go_enter Tryd.func8, Tryd.ntmps8
      go_wp2
      go_ret2
      exact ⟨rfl, rfl⟩
    · rw [if_neg (by omega)]
      go_enter Tryd.func8, Tryd.ntmps8
      go_wp2
      go_ret2
      exact ⟨rfl, rfl⟩
  · rw [if_neg (by omega)]
    go_enter Tryd.func8, Tryd.ntmps8
    go_wp2
    go_ret2
    exact ⟨rfl, rfl⟩

theorem refFrom_any (n : Int) (w : World) (n1 : -9223372036854775808 ≤ n) (n2 : n ≤ 9223372036854775807) :
    Calls Tryd.prog 9 #[.int .i64 n] w fun e w' => e = .returned (pr (fromR n)) ∧ w = w' := by
  unfold fromR
  by_cases h1 : -1152921504606 ≤ n
  · by_cases h2 : n ≤ 1152921504606
    · rw [if_pos ⟨h1, h2⟩]
      go_enter Tryd.func9, Tryd.ntmps9
      go_wp2
      go_ret2
      exact ⟨rfl, rfl⟩
    · rw [if_neg (by omega)]
      go_enter Tryd.func9, Tryd.ntmps9
      go_wp2
      go_ret2
      exact ⟨rfl, rfl⟩
  · rw [if_neg (by omega)]
    go_enter Tryd.func9, Tryd.ntmps9
    go_wp2
    go_ret2
    exact ⟨rfl, rfl⟩

theorem refAdd_any (a b : Int) (w : World) (a1 : -9223372036854775808 ≤ a) (a2 : a ≤ 9223372036854775807) (b1 : -9223372036854775808 ≤ b) (b2 : b ≤ 9223372036854775807) :
    Calls Tryd.prog 14 #[.int .i64 a, .int .i64 b] w fun e w' => e = .returned (pr (addR a b)) ∧ w = w' := by
  unfold addR
  cases hA : fit a
  · rw [if_neg (by simp)]
    go_enter Tryd.func14, Tryd.ntmps14
    go_wp2_with (go_at_call 23; refine (inRange_any _ _ (by omega) (by omega)).mono ?_; rintro e w' ⟨rfl, rfl⟩; simp only [hA])
    go_ret2
    exact ⟨rfl, rfl⟩
  · cases hB : fit b
    · rw [if_neg (by simp)]
      go_enter Tryd.func14, Tryd.ntmps14
      go_wp2_with (go_at_call 23; refine (inRange_any _ _ (by omega) (by omega)).mono ?_; rintro e w' ⟨rfl, rfl⟩; simp only [hA, hB])
      go_ret2
      exact ⟨rfl, rfl⟩
    · obtain ⟨x1, x2⟩ := fit_yes hA
      obtain ⟨y1, y2⟩ := fit_yes hB
      have K := fun w => kept_any (a + b) w (by omega) (by omega)
      cases hC : fit (a + b)
      all_goals
        rw [hC] at K
        have K' := Lib.hid K
        clear K
        go_enter Tryd.func14, Tryd.ntmps14
        go_wp2_with (first | (go_at_call 23; refine (inRange_any _ _ (by omega) (by omega)).mono ?_; rintro e w' ⟨rfl, rfl⟩; simp only [hA, hB]))
        refine (K'.out _).mono ?_
        rintro e w4 ⟨rfl, rfl⟩
        simp only [pr, if_true, if_false, Bool.false_eq_true]
        go_wp2_with fail
        go_ret2
        exact ⟨rfl, rfl⟩

theorem refSub_any (a b : Int) (w : World) (a1 : -9223372036854775808 ≤ a) (a2 : a ≤ 9223372036854775807) (b1 : -9223372036854775808 ≤ b) (b2 : b ≤ 9223372036854775807) :
    Calls Tryd.prog 16 #[.int .i64 a, .int .i64 b] w fun e w' => e = .returned (pr (subR a b)) ∧ w = w' := by
  unfold subR
  cases hA : fit a
  · rw [if_neg (by simp)]
    go_enter Tryd.func16, Tryd.ntmps16
    go_wp2_with (go_at_call 23; refine (inRange_any _ _ (by omega) (by omega)).mono ?_; rintro e w' ⟨rfl, rfl⟩; simp only [hA])
    go_ret2
    exact ⟨rfl, rfl⟩
  · cases hB : fit b
    · rw [if_neg (by simp)]
      go_enter Tryd.func16, Tryd.ntmps16
      go_wp2_with (go_at_call 23; refine (inRange_any _ _ (by omega) (by omega)).mono ?_; rintro e w' ⟨rfl, rfl⟩; simp only [hA, hB])
      go_ret2
      exact ⟨rfl, rfl⟩
    · obtain ⟨x1, x2⟩ := fit_yes hA
      obtain ⟨y1, y2⟩ := fit_yes hB
      have K := fun w => kept_any (a - b) w (by omega) (by omega)
      cases hC : fit (a - b)
      all_goals
        rw [hC] at K
        have K' := Lib.hid K
        clear K
        go_enter Tryd.func16, Tryd.ntmps16
        go_wp2_with (first | (go_at_call 23; refine (inRange_any _ _ (by omega) (by omega)).mono ?_; rintro e w' ⟨rfl, rfl⟩; simp only [hA, hB]))
        refine (K'.out _).mono ?_
        rintro e w4 ⟨rfl, rfl⟩
        simp only [pr, if_true, if_false, Bool.false_eq_true]
        go_wp2_with fail
        go_ret2
        exact ⟨rfl, rfl⟩

end Go.Proofs.YtiahadohgfahcaaDoor
