import Derived.Test.YtjjibddpgjoeeaaC
namespace Go.Proofs.Ytjjibddpgjoeeaa
open Go.ChangeShapes Go.WideShapes Go.ChangeAt Go.RowKit

theorem ex0 (w : World) : Calls Try.prog 20 #[.int .i64 (-1)] w fun e w' => e = .returned (.agg #[.int .i64 (-1), .int .u64 18446744073709551615]) ∧ Below w.heap.size w w' := by
  have h := of_any (-1) w (by decide) (by decide)
  rw [show whi (-1) = (-1) from by decide, show wlo (-1) = 18446744073709551615 from by decide] at h
  exact h
theorem ex1 (w : World) : Calls Try.prog 14 #[.int .i64 (-3), .int .i64 5] w fun e w' => e = .returned (.agg #[.int .i64 (-1), .int .u64 18446744073709551601]) ∧ Below w.heap.size w w' := by
  have h := mul_any (-3) 5 (by decide) (by decide) (by decide) (by decide) w
  rw [show whi ((-3) * 5) = (-1) from by decide, show wlo ((-3) * 5) = 18446744073709551601 from by decide] at h
  exact h
theorem ex2 (w : World) : Calls Try.prog 14 #[.int .i64 4611686018427387904, .int .i64 4] w fun e w' => e = .returned (.agg #[.int .i64 1, .int .u64 0]) ∧ Below w.heap.size w w' := by
  have h := mul_any 4611686018427387904 4 (by decide) (by decide) (by decide) (by decide) w
  rw [show whi (4611686018427387904 * 4) = 1 from by decide, show wlo (4611686018427387904 * 4) = 0 from by decide] at h
  exact h
theorem ex3 (w : World) : Calls Try.prog 25 #[.agg #[.int .i64 1, .int .u64 0]] w fun e w' => e = .returned (.agg #[.int .i64 (-1), .int .u64 0]) ∧ Below w.heap.size w w' := by
  have h := neg_any 18446744073709551616 w
  rw [show whi 18446744073709551616 = 1 from by decide, show wlo 18446744073709551616 = 0 from by decide, show whi (-18446744073709551616) = (-1) from by decide, show wlo (-18446744073709551616) = 0 from by decide] at h
  exact h
theorem ex4 (w : World) : Calls Try.prog 16 #[.agg #[.int .i64 0, .int .u64 9223372036854775808], .int .i64 2] w fun e w' => e = .returned (.agg #[.int .i64 1, .int .u64 0]) ∧ Below w.heap.size w w' := by
  have h := scale_any 9223372036854775808 2 (by decide) (by decide) w
  rw [show whi 9223372036854775808 = 0 from by decide, show wlo 9223372036854775808 = 9223372036854775808 from by decide, show whi (9223372036854775808 * 2) = 1 from by decide, show wlo (9223372036854775808 * 2) = 0 from by decide] at h
  exact h
theorem ex5 (w : World) : Calls Try.prog 20 #[.int .i64 (-1)] w fun e w' => e = .returned (.agg #[.int .i64 (-1), .int .u64 18446744073709551615]) ∧ Below w.heap.size w w' := by
  have h := of_any (-1) w (by decide) (by decide)
  rw [show whi (-1) = (-1) from by decide, show wlo (-1) = 18446744073709551615 from by decide] at h
  exact h
theorem ex6 (w : World) : Calls Try.prog 20 #[.int .i64 0] w fun e w' => e = .returned (.agg #[.int .i64 0, .int .u64 0]) ∧ Below w.heap.size w w' := by
  have h := of_any 0 w (by decide) (by decide)
  rw [show whi 0 = 0 from by decide, show wlo 0 = 0 from by decide] at h
  exact h
theorem ex7 (w : World) : Calls Try.prog 28 #[.agg #[.int .i64 (-1), .int .u64 18446744073709551615], .agg #[.int .i64 0, .int .u64 0]] w fun e w' => e = .returned (.int .i64 (-1)) ∧ Below w.heap.size w w' := by
  have h := compare_any (-1) 0 w
  rw [show whi (-1) = (-1) from by decide, show wlo (-1) = 18446744073709551615 from by decide, show whi 0 = 0 from by decide, show wlo 0 = 0 from by decide, show cmp3 (norm (-1)) (norm 0) = (-1) from by decide] at h
  exact h
theorem ex8 (w : World) : Calls Try.prog 20 #[.int .i64 7] w fun e w' => e = .returned (.agg #[.int .i64 0, .int .u64 7]) ∧ Below w.heap.size w w' := by
  have h := of_any 7 w (by decide) (by decide)
  rw [show whi 7 = 0 from by decide, show wlo 7 = 7 from by decide] at h
  exact h
theorem ex9 (w : World) : Calls Try.prog 18 #[.agg #[.int .i64 0, .int .u64 7], .int .i64 2] w fun e w' => e = .returned (.tuple #[.int .i64 4, .bool true]) ∧ Below w.heap.size w w' := by
  have h := divide_small 7 2 (by decide) (by decide) (by decide) (by decide) w
  rw [show whi 7 = 0 from by decide, show wlo 7 = 7 from by decide, show divRes 7 2 = .tuple #[.int .i64 4, .bool true] from by simp [divRes, divOut, upq, absI]] at h
  exact h
theorem ex10 (w : World) : Calls Try.prog 20 #[.int .i64 5] w fun e w' => e = .returned (.agg #[.int .i64 0, .int .u64 5]) ∧ Below w.heap.size w w' := by
  have h := of_any 5 w (by decide) (by decide)
  rw [show whi 5 = 0 from by decide, show wlo 5 = 5 from by decide] at h
  exact h
theorem ex11 (w : World) : Calls Try.prog 18 #[.agg #[.int .i64 0, .int .u64 5], .int .i64 2] w fun e w' => e = .returned (.tuple #[.int .i64 2, .bool true]) ∧ Below w.heap.size w w' := by
  have h := divide_small 5 2 (by decide) (by decide) (by decide) (by decide) w
  rw [show whi 5 = 0 from by decide, show wlo 5 = 5 from by decide, show divRes 5 2 = .tuple #[.int .i64 2, .bool true] from by simp [divRes, divOut, upq, absI]] at h
  exact h
theorem ex12 (w : World) : Calls Try.prog 20 #[.int .i64 (-5)] w fun e w' => e = .returned (.agg #[.int .i64 (-1), .int .u64 18446744073709551611]) ∧ Below w.heap.size w w' := by
  have h := of_any (-5) w (by decide) (by decide)
  rw [show whi (-5) = (-1) from by decide, show wlo (-5) = 18446744073709551611 from by decide] at h
  exact h
theorem ex13 (w : World) : Calls Try.prog 18 #[.agg #[.int .i64 (-1), .int .u64 18446744073709551611], .int .i64 2] w fun e w' => e = .returned (.tuple #[.int .i64 (-2), .bool true]) ∧ Below w.heap.size w w' := by
  have h := divide_small (-5) 2 (by decide) (by decide) (by decide) (by decide) w
  rw [show whi (-5) = (-1) from by decide, show wlo (-5) = 18446744073709551611 from by decide, show divRes (-5) 2 = .tuple #[.int .i64 (-2), .bool true] from by simp [divRes, divOut, upq, absI]] at h
  exact h
theorem ex14 (w : World) : Calls Try.prog 20 #[.int .i64 (-7)] w fun e w' => e = .returned (.agg #[.int .i64 (-1), .int .u64 18446744073709551609]) ∧ Below w.heap.size w w' := by
  have h := of_any (-7) w (by decide) (by decide)
  rw [show whi (-7) = (-1) from by decide, show wlo (-7) = 18446744073709551609 from by decide] at h
  exact h
theorem ex15 (w : World) : Calls Try.prog 18 #[.agg #[.int .i64 (-1), .int .u64 18446744073709551609], .int .i64 2] w fun e w' => e = .returned (.tuple #[.int .i64 (-4), .bool true]) ∧ Below w.heap.size w w' := by
  have h := divide_small (-7) 2 (by decide) (by decide) (by decide) (by decide) w
  rw [show whi (-7) = (-1) from by decide, show wlo (-7) = 18446744073709551609 from by decide, show divRes (-7) 2 = .tuple #[.int .i64 (-4), .bool true] from by simp [divRes, divOut, upq, absI]] at h
  exact h
theorem ex16 (w : World) : Calls Try.prog 20 #[.int .i64 1152921504606846977] w fun e w' => e = .returned (.agg #[.int .i64 0, .int .u64 1152921504606846977]) ∧ Below w.heap.size w w' := by
  have h := of_any 1152921504606846977 w (by decide) (by decide)
  rw [show whi 1152921504606846977 = 0 from by decide, show wlo 1152921504606846977 = 1152921504606846977 from by decide] at h
  exact h
theorem ex17 (w : World) : Calls Try.prog 18 #[.agg #[.int .i64 0, .int .u64 1152921504606846977], .int .i64 1] w fun e w' => e = .returned (.tuple #[.int .i64 0, .bool false]) ∧ Below w.heap.size w w' := by
  have h := divide_small 1152921504606846977 1 (by decide) (by decide) (by decide) (by decide) w
  rw [show whi 1152921504606846977 = 0 from by decide, show wlo 1152921504606846977 = 1152921504606846977 from by decide, show divRes 1152921504606846977 1 = .tuple #[.int .i64 0, .bool false] from by simp [divRes, divOut, upq, absI]] at h
  exact h
theorem ex18 (w : World) : Calls Try.prog 20 #[.int .i64 1] w fun e w' => e = .returned (.agg #[.int .i64 0, .int .u64 1]) ∧ Below w.heap.size w w' := by
  have h := of_any 1 w (by decide) (by decide)
  rw [show whi 1 = 0 from by decide, show wlo 1 = 1 from by decide] at h
  exact h
theorem ex19 (w : World) : Calls Try.prog 18 #[.agg #[.int .i64 0, .int .u64 1], .int .i64 0] w fun e w' => e = .returned (.tuple #[.int .i64 0, .bool false]) ∧ Below w.heap.size w w' := by
  have h := divide_small 1 0 (by decide) (by decide) (by decide) (by decide) w
  rw [show whi 1 = 0 from by decide, show wlo 1 = 1 from by decide, show divRes 1 0 = .tuple #[.int .i64 0, .bool false] from by simp [divRes]] at h
  exact h

/-- The examples of the chapter. -/
theorem example_any (w : World) : Calls Try.prog 13 #[] w fun e w' => e = .returned (.bool true) ∧ Below w.heap.size w w' := by
  go_enter Try.func13, Try.ntmps13
  go_wp2_with fail
  refine (ex0 _).mono ?_
  rintro e w1 ⟨rfl, hb1⟩
  have h1 : Below w.heap.size w w1 := hb1
  go_wp2_with fail
  refine (ex1 _).mono ?_
  rintro e w2 ⟨rfl, hb2⟩
  have h2 : Below w.heap.size w w2 := h1.trans (hb2.mono h1.size)
  clear h1 hb2
  go_wp2_with fail
  refine (ex2 _).mono ?_
  rintro e w3 ⟨rfl, hb3⟩
  have h3 : Below w.heap.size w w3 := h2.trans (hb3.mono h2.size)
  clear h2 hb3
  go_wp2_with fail
  refine (ex3 _).mono ?_
  rintro e w4 ⟨rfl, hb4⟩
  have h4 : Below w.heap.size w w4 := h3.trans (hb4.mono h3.size)
  clear h3 hb4
  go_wp2_with fail
  refine (ex4 _).mono ?_
  rintro e w5 ⟨rfl, hb5⟩
  have h5 : Below w.heap.size w w5 := h4.trans (hb5.mono h4.size)
  clear h4 hb5
  go_wp2_with fail
  refine (ex5 _).mono ?_
  rintro e w6 ⟨rfl, hb6⟩
  have h6 : Below w.heap.size w w6 := h5.trans (hb6.mono h5.size)
  clear h5 hb6
  go_wp2_with fail
  refine (ex6 _).mono ?_
  rintro e w7 ⟨rfl, hb7⟩
  have h7 : Below w.heap.size w w7 := h6.trans (hb7.mono h6.size)
  clear h6 hb7
  go_wp2_with fail
  refine (ex7 _).mono ?_
  rintro e w8 ⟨rfl, hb8⟩
  have h8 : Below w.heap.size w w8 := h7.trans (hb8.mono h7.size)
  clear h7 hb8
  go_wp2_with fail
  refine (ex8 _).mono ?_
  rintro e w9 ⟨rfl, hb9⟩
  have h9 : Below w.heap.size w w9 := h8.trans (hb9.mono h8.size)
  clear h8 hb9
  go_wp2_with fail
  refine (ex9 _).mono ?_
  rintro e w10 ⟨rfl, hb10⟩
  have h10 : Below w.heap.size w w10 := h9.trans (hb10.mono h9.size)
  clear h9 hb10
  go_wp2_with fail
  refine (ex10 _).mono ?_
  rintro e w11 ⟨rfl, hb11⟩
  have h11 : Below w.heap.size w w11 := h10.trans (hb11.mono h10.size)
  clear h10 hb11
  go_wp2_with fail
  refine (ex11 _).mono ?_
  rintro e w12 ⟨rfl, hb12⟩
  have h12 : Below w.heap.size w w12 := h11.trans (hb12.mono h11.size)
  clear h11 hb12
  go_wp2_with fail
  refine (ex12 _).mono ?_
  rintro e w13 ⟨rfl, hb13⟩
  have h13 : Below w.heap.size w w13 := h12.trans (hb13.mono h12.size)
  clear h12 hb13
  go_wp2_with fail
  refine (ex13 _).mono ?_
  rintro e w14 ⟨rfl, hb14⟩
  have h14 : Below w.heap.size w w14 := h13.trans (hb14.mono h13.size)
  clear h13 hb14
  go_wp2_with fail
  refine (ex14 _).mono ?_
  rintro e w15 ⟨rfl, hb15⟩
  have h15 : Below w.heap.size w w15 := h14.trans (hb15.mono h14.size)
  clear h14 hb15
  go_wp2_with fail
  refine (ex15 _).mono ?_
  rintro e w16 ⟨rfl, hb16⟩
  have h16 : Below w.heap.size w w16 := h15.trans (hb16.mono h15.size)
  clear h15 hb16
  go_wp2_with fail
  refine (ex16 _).mono ?_
  rintro e w17 ⟨rfl, hb17⟩
  have h17 : Below w.heap.size w w17 := h16.trans (hb17.mono h16.size)
  clear h16 hb17
  go_wp2_with fail
  refine (ex17 _).mono ?_
  rintro e w18 ⟨rfl, hb18⟩
  have h18 : Below w.heap.size w w18 := h17.trans (hb18.mono h17.size)
  clear h17 hb18
  go_wp2_with fail
  refine (ex18 _).mono ?_
  rintro e w19 ⟨rfl, hb19⟩
  have h19 : Below w.heap.size w w19 := h18.trans (hb19.mono h18.size)
  clear h18 hb19
  go_wp2_with fail
  refine (ex19 _).mono ?_
  rintro e w20 ⟨rfl, hb20⟩
  have h20 : Below w.heap.size w w20 := h19.trans (hb20.mono h19.size)
  clear h19 hb20
  go_wp2_with fail
  go_ret
  exact ⟨rfl, h20⟩
end Go.Proofs.Ytjjibddpgjoeeaa
