import Derived.Test.YtjjibddpgjoeeaaG
namespace Go.Proofs.Ytjjibddpgjoeeaa
open Go.ChangeShapes Go.WideShapes Go.ChangeAt Go.RowKit

theorem norm_def (n : Int) : norm n = whi n * 18446744073709551616 + wlo n := by unfold norm; rfl
theorem limit_iff (N Y : Int) (hN : 0 ≤ N) (hY : 0 < Y) : (upq N Y ≤ 1152921504606846976) ↔ (N + N ≤ Y * 2305843009213693953) := by
  have e1 := Int.mul_ediv_add_emod N Y
  have m0 := Int.emod_nonneg N (show Y ≠ 0 by omega)
  have m1 := Int.emod_lt_of_pos N hY
  have q0 : 0 ≤ N / Y := Int.ediv_nonneg hN (by omega)
  unfold upq
  generalize N % Y = r at *
  generalize N / Y = q at *
  have hc : Y * q = q * Y := Int.mul_comm _ _
  rcases Int.lt_or_le q 1152921504606846976 with h | h
  · have : q * Y ≤ 1152921504606846975 * Y := Int.mul_le_mul_of_nonneg_right (by omega) (by omega)
    constructor
    · intro; omega
    · intro; split <;> omega
  · rcases Int.lt_or_le 1152921504606846976 q with h' | h'
    · have : 1152921504606846977 * Y ≤ q * Y := Int.mul_le_mul_of_nonneg_right (by omega) (by omega)
      constructor
      · intro k; split at k <;> omega
      · intro; omega
    · have : q = 1152921504606846976 := by omega
      subst this
      constructor
      · intro k; split at k <;> omega
      · intro k; split <;> omega
theorem limit_far (N d : Int) (h1 : -9223372036854775808 ≤ d) (h2 : d ≤ 9223372036854775807) (h : 85070591730234615865843651857942052864 ≤ absI N) : divRes N d = .tuple #[.int .i64 0, .bool false] := by
  apply rounds_none
  by_cases hd : d = 0
  · exact Or.inl hd
  · right
    have hy : 0 < absI d := by unfold absI; split <;> omega
    have hy2 : absI d ≤ 9223372036854775808 := by unfold absI; split <;> omega
    have := (limit_iff (absI N) (absI d) (by omega) hy)
    rcases Int.lt_or_le 1152921504606846976 (upq (absI N) (absI d)) with k | k
    · exact k
    · have := this.1 (by omega)
      omega
theorem limit_zero (a d : Int) (hd : d = 0)
    (DV : ∀ w, Calls Try.prog 18 #[.agg #[.int .i64 (whi a), .int .u64 (wlo a)], .int .i64 d] w fun e w' => e = .returned (.tuple #[.int .i64 0, .bool false]) ∧ Below w.heap.size w w') (w : World) :
    Calls Try.prog 11 #[.agg #[.int .i64 (whi a), .int .u64 (wlo a)], .int .i64 d] w fun e w' => e = .returned (.bool true) ∧ Below w.heap.size w w' := by
  have hd' : (d == 0) = true := by simp; omega
  clear hd
  have DV' := Lib.hid DV; clear DV
  go_enter Try.func11, Try.ntmps11
  go_wp2_with fail
  refine (example_any _).mono ?_
  rintro e w1 ⟨rfl, hb1⟩
  have hz1 := hb1.size
  simp at hz1
  have ca1 : w1.cell? ⟨w.heap.size, 0, none⟩ = some (.int .i64 (whi a)) := by rw [hb1.cell (by simp)]; simp [go_sem]
  have cb1 : w1.cell? ⟨w.heap.size, 1, none⟩ = some (.int .u64 (wlo a)) := by rw [hb1.cell (by simp)]; simp [go_sem]
  have HB1 : Below w.heap.size w w1 := ((Below.refl _ _).alloc (Nat.le_refl _) _).trans (hb1.mono (by simp))
  clear hb1
  go_wp2_with fail
  refine (DV'.out _).mono ?_
  rintro e w2 ⟨rfl, hb2⟩
  have hz2 := hb2.size
  have ca2 : w2.cell? ⟨w.heap.size, 0, none⟩ = some (.int .i64 (whi a)) := by rw [hb2.cell (by simp; omega), ca1]
  have cb2 : w2.cell? ⟨w.heap.size, 1, none⟩ = some (.int .u64 (wlo a)) := by rw [hb2.cell (by simp; omega), cb1]
  have HB2 : Below w.heap.size w w2 := HB1.trans (hb2.mono (by omega))
  have hlt : w.heap.size < w2.heap.size := by omega
  clear ca1 cb1 hb2 hz1 hz2 HB1
  go_wp2_with fail
  go_ret
  exact ⟨rfl, HB2⟩
theorem limit_up (a d : Int) (hd : d ≠ 0) (h : 4611686018427387904 ≤ whi a)
    (DV : ∀ w, Calls Try.prog 18 #[.agg #[.int .i64 (whi a), .int .u64 (wlo a)], .int .i64 d] w fun e w' => e = .returned (.tuple #[.int .i64 0, .bool false]) ∧ Below w.heap.size w w') (w : World) :
    Calls Try.prog 11 #[.agg #[.int .i64 (whi a), .int .u64 (wlo a)], .int .i64 d] w fun e w' => e = .returned (.bool true) ∧ Below w.heap.size w w' := by
  have hd' : (d == 0) = false := by simp; omega
  clear hd
  have DV' := Lib.hid DV; clear DV
  go_enter Try.func11, Try.ntmps11
  go_wp2_with fail
  refine (example_any _).mono ?_
  rintro e w1 ⟨rfl, hb1⟩
  have hz1 := hb1.size
  simp at hz1
  have ca1 : w1.cell? ⟨w.heap.size, 0, none⟩ = some (.int .i64 (whi a)) := by rw [hb1.cell (by simp)]; simp [go_sem]
  have cb1 : w1.cell? ⟨w.heap.size, 1, none⟩ = some (.int .u64 (wlo a)) := by rw [hb1.cell (by simp)]; simp [go_sem]
  have HB1 : Below w.heap.size w w1 := ((Below.refl _ _).alloc (Nat.le_refl _) _).trans (hb1.mono (by simp))
  clear hb1
  go_wp2_with fail
  refine (DV'.out _).mono ?_
  rintro e w2 ⟨rfl, hb2⟩
  have hz2 := hb2.size
  have ca2 : w2.cell? ⟨w.heap.size, 0, none⟩ = some (.int .i64 (whi a)) := by rw [hb2.cell (by simp; omega), ca1]
  have cb2 : w2.cell? ⟨w.heap.size, 1, none⟩ = some (.int .u64 (wlo a)) := by rw [hb2.cell (by simp; omega), cb1]
  have HB2 : Below w.heap.size w w2 := HB1.trans (hb2.mono (by omega))
  have hlt : w.heap.size < w2.heap.size := by omega
  clear ca1 cb1 hb2 hz1 hz2 HB1
  go_wp2_with fail
  go_ret
  exact ⟨rfl, HB2⟩
theorem limit_down (a d : Int) (hd : d ≠ 0) (h : whi a < -4611686018427387904)
    (DV : ∀ w, Calls Try.prog 18 #[.agg #[.int .i64 (whi a), .int .u64 (wlo a)], .int .i64 d] w fun e w' => e = .returned (.tuple #[.int .i64 0, .bool false]) ∧ Below w.heap.size w w') (w : World) :
    Calls Try.prog 11 #[.agg #[.int .i64 (whi a), .int .u64 (wlo a)], .int .i64 d] w fun e w' => e = .returned (.bool true) ∧ Below w.heap.size w w' := by
  have hd' : (d == 0) = false := by simp; omega
  have h2 : ¬ 4611686018427387904 ≤ whi a := by omega
  clear hd
  have DV' := Lib.hid DV; clear DV
  go_enter Try.func11, Try.ntmps11
  go_wp2_with fail
  refine (example_any _).mono ?_
  rintro e w1 ⟨rfl, hb1⟩
  have hz1 := hb1.size
  simp at hz1
  have ca1 : w1.cell? ⟨w.heap.size, 0, none⟩ = some (.int .i64 (whi a)) := by rw [hb1.cell (by simp)]; simp [go_sem]
  have cb1 : w1.cell? ⟨w.heap.size, 1, none⟩ = some (.int .u64 (wlo a)) := by rw [hb1.cell (by simp)]; simp [go_sem]
  have HB1 : Below w.heap.size w w1 := ((Below.refl _ _).alloc (Nat.le_refl _) _).trans (hb1.mono (by simp))
  clear hb1
  go_wp2_with fail
  refine (DV'.out _).mono ?_
  rintro e w2 ⟨rfl, hb2⟩
  have hz2 := hb2.size
  have ca2 : w2.cell? ⟨w.heap.size, 0, none⟩ = some (.int .i64 (whi a)) := by rw [hb2.cell (by simp; omega), ca1]
  have cb2 : w2.cell? ⟨w.heap.size, 1, none⟩ = some (.int .u64 (wlo a)) := by rw [hb2.cell (by simp; omega), cb1]
  have HB2 : Below w.heap.size w w2 := HB1.trans (hb2.mono (by omega))
  have hlt : w.heap.size < w2.heap.size := by omega
  clear ca1 cb1 hb2 hz1 hz2 HB1
  go_wp2_with fail
  go_ret
  exact ⟨rfl, HB2⟩
set_option maxHeartbeats 1000000 in
theorem limit_neg (a d N y q : Int) (d1 : -9223372036854775808 ≤ d) (d2 : d ≤ 9223372036854775807) (hd : d ≠ 0) (hh1 : whi a < 4611686018427387904) (hh2 : -4611686018427387904 ≤ whi a) (hN : N = absI (norm a)) (hy : y = absI d) (hneg : whi (N + N) < 0)
    (DV : ∀ w, Calls Try.prog 18 #[.agg #[.int .i64 (whi a), .int .u64 (wlo a)], .int .i64 d] w fun e w' => e = .returned (.tuple #[.int .i64 q, .bool false]) ∧ Below w.heap.size w w') (w : World) :
    Calls Try.prog 11 #[.agg #[.int .i64 (whi a), .int .u64 (wlo a)], .int .i64 d] w fun e w' => e = .returned (.bool true) ∧ Below w.heap.size w w' := by
  have o := Lib.hid (of_any d (h1 := d1) (h2 := d2))
  have ab2 := Lib.hid (absolute_any d y (by rw [hy, norm_int d d1 d2]; rfl))
  have sc := Lib.hid (scale_any y 2305843009213693953 (by decide) (by decide))
  have ab := Lib.hid (fun w => absolute_any a _ rfl w)
  have eN : eqv (if norm a < 0 then -a else a) N := by
    have := norm_eqv a
    unfold absI at hN; unfold eqv at *; split <;> split at hN <;> omega
  rw [(halves_eqv eN).1, (halves_eqv eN).2] at ab
  have ad := Lib.hid (add_any N N)
  have hd' : (d == 0) = false := by simp; omega
  have h3 : ¬ 4611686018427387904 ≤ whi a := by omega
  have h4 : ¬ whi a < -4611686018427387904 := by omega
  clear eN hd hN hy
  have h5 : ¬ 0 ≤ whi (N + N) := by omega
  have DV' := Lib.hid DV; clear DV
  go_enter Try.func11, Try.ntmps11
  go_wp2_with fail
  refine (example_any _).mono ?_
  rintro e w1 ⟨rfl, hb1⟩
  have hz1 := hb1.size
  simp at hz1
  have ca1 : w1.cell? ⟨w.heap.size, 0, none⟩ = some (.int .i64 (whi a)) := by rw [hb1.cell (by simp)]; simp [go_sem]
  have cb1 : w1.cell? ⟨w.heap.size, 1, none⟩ = some (.int .u64 (wlo a)) := by rw [hb1.cell (by simp)]; simp [go_sem]
  have HB1 : Below w.heap.size w w1 := ((Below.refl _ _).alloc (Nat.le_refl _) _).trans (hb1.mono (by simp))
  clear hb1
  go_wp2_with fail
  refine (DV'.out _).mono ?_
  rintro e w2 ⟨rfl, hb2⟩
  have hz2 := hb2.size
  have ca2 : w2.cell? ⟨w.heap.size, 0, none⟩ = some (.int .i64 (whi a)) := by rw [hb2.cell (by simp; omega), ca1]
  have cb2 : w2.cell? ⟨w.heap.size, 1, none⟩ = some (.int .u64 (wlo a)) := by rw [hb2.cell (by simp; omega), cb1]
  have HB2 : Below w.heap.size w w2 := HB1.trans (hb2.mono (by omega))
  have hlt : w.heap.size < w2.heap.size := by omega
  clear ca1 cb1 hb2 hz1 hz2 HB1
  go_wp2_with fail
  refine (o.out _).mono ?_
  rintro e w3 ⟨rfl, hb3⟩
  have hz3 := hb3.size
  have ca3 : w3.cell? ⟨w.heap.size, 0, none⟩ = some (.int .i64 (whi a)) := by rw [hb3.cell (by simp; omega), ca2]
  have cb3 : w3.cell? ⟨w.heap.size, 1, none⟩ = some (.int .u64 (wlo a)) := by rw [hb3.cell (by simp; omega), cb2]
  have HB3 : Below w.heap.size w w3 := HB2.trans (hb3.mono (by omega))
  have hlt3 : w.heap.size < w3.heap.size := by omega
  clear ca2 cb2 hb3 hz3 HB2 hlt
  go_wp2_with fail
  refine (ab2.out _).mono ?_
  rintro e w4 ⟨rfl, hb4⟩
  have hz4 := hb4.size
  have ca4 : w4.cell? ⟨w.heap.size, 0, none⟩ = some (.int .i64 (whi a)) := by rw [hb4.cell (by simp; omega), ca3]
  have cb4 : w4.cell? ⟨w.heap.size, 1, none⟩ = some (.int .u64 (wlo a)) := by rw [hb4.cell (by simp; omega), cb3]
  have HB4 : Below w.heap.size w w4 := HB3.trans (hb4.mono (by omega))
  have hlt4 : w.heap.size < w4.heap.size := by omega
  clear ca3 cb3 hb4 hz4 HB3 hlt3
  go_wp2_with fail
  refine (sc.out _).mono ?_
  rintro e w5 ⟨rfl, hb5⟩
  have hz5 := hb5.size
  simp at hz5
  have ca5 : w5.cell? ⟨w.heap.size, 0, none⟩ = some (.int .i64 (whi a)) := by rw [hb5.cell (by simp; omega)]; simp [go_sem, ca4, hlt4]
  have cb5 : w5.cell? ⟨w.heap.size, 1, none⟩ = some (.int .u64 (wlo a)) := by rw [hb5.cell (by simp; omega)]; simp [go_sem, cb4, hlt4]
  have HB5 : Below w.heap.size w w5 := (HB4.alloc (by omega) _).trans (hb5.mono (by simp; omega))
  have hlt5 : w.heap.size < w5.heap.size := by omega
  clear ca4 cb4 hb5 hz5 HB4 hlt4
  go_wp2_with fail
  refine (ab.out _).mono ?_
  rintro e w6 ⟨rfl, hb6⟩
  have hz6 := hb6.size
  simp at hz6
  have cc6 : w6.cell? ⟨w5.heap.size, 0, none⟩ = some (.int .i64 (whi (y * 2305843009213693953))) := by rw [hb6.cell (by simp)]; simp [go_sem]
  have cd6 : w6.cell? ⟨w5.heap.size, 1, none⟩ = some (.int .u64 (wlo (y * 2305843009213693953))) := by rw [hb6.cell (by simp)]; simp [go_sem]
  have HB6 : Below w.heap.size w w6 := (HB5.alloc (by omega) _).trans (hb6.mono (by simp; omega))
  have hlt6 : w5.heap.size < w6.heap.size := by omega
  clear ca5 cb5 hb6 hz6 HB5
  go_wp2_with fail
  refine (ad.out _).mono ?_
  rintro e w7 ⟨rfl, hb7⟩
  have hz7 := hb7.size
  simp at hz7
  have cc7 : w7.cell? ⟨w5.heap.size, 0, none⟩ = some (.int .i64 (whi (y * 2305843009213693953))) := by rw [hb7.cell (by simp; omega)]; simp [go_sem, cc6, hlt6]
  have cd7 : w7.cell? ⟨w5.heap.size, 1, none⟩ = some (.int .u64 (wlo (y * 2305843009213693953))) := by rw [hb7.cell (by simp; omega)]; simp [go_sem, cd6, hlt6]
  have ce7 : w7.cell? ⟨w6.heap.size, 0, none⟩ = some (.int .i64 (whi N)) := by rw [hb7.cell (by simp)]; simp [go_sem]
  have cf7 : w7.cell? ⟨w6.heap.size, 1, none⟩ = some (.int .u64 (wlo N)) := by rw [hb7.cell (by simp)]; simp [go_sem]
  have cg7 : w7.frozen? ⟨w6.heap.size, 0, none⟩ = false := by rw [hb7.frozen (by simp)]; simp [go_sem]
  have ch7 : w7.frozen? ⟨w6.heap.size, 1, none⟩ = false := by rw [hb7.frozen (by simp)]; simp [go_sem]
  have hne : w6.heap.size ≠ w5.heap.size := by omega
  have HB7 : Below w.heap.size w w7 := (HB6.alloc (by omega) _).trans (hb7.mono (by simp; omega))
  clear cc6 cd6 hb7 hz7 HB6
  go_wp2_with fail
  go_ret
  exact ⟨rfl, (HB7.setCell (by simp; omega) _).setCell (by simp; omega) _⟩
set_option maxHeartbeats 1000000 in
theorem limit_yes (a d N y q : Int) (d1 : -9223372036854775808 ≤ d) (d2 : d ≤ 9223372036854775807) (hd : d ≠ 0) (hh1 : whi a < 4611686018427387904) (hh2 : -4611686018427387904 ≤ whi a) (hN : N = absI (norm a)) (hy : y = absI d) (hneg : 0 ≤ whi (N + N)) (hc : norm (N + N) < norm (y * 2305843009213693953))
    (DV : ∀ w, Calls Try.prog 18 #[.agg #[.int .i64 (whi a), .int .u64 (wlo a)], .int .i64 d] w fun e w' => e = .returned (.tuple #[.int .i64 q, .bool true]) ∧ Below w.heap.size w w') (w : World) :
    Calls Try.prog 11 #[.agg #[.int .i64 (whi a), .int .u64 (wlo a)], .int .i64 d] w fun e w' => e = .returned (.bool true) ∧ Below w.heap.size w w' := by
  have o := Lib.hid (of_any d (h1 := d1) (h2 := d2))
  have ab2 := Lib.hid (absolute_any d y (by rw [hy, norm_int d d1 d2]; rfl))
  have sc := Lib.hid (scale_any y 2305843009213693953 (by decide) (by decide))
  have ab := Lib.hid (fun w => absolute_any a _ rfl w)
  have eN : eqv (if norm a < 0 then -a else a) N := by
    have := norm_eqv a
    unfold absI at hN; unfold eqv at *; split <;> split at hN <;> omega
  rw [(halves_eqv eN).1, (halves_eqv eN).2] at ab
  have ad := Lib.hid (add_any N N)
  have hd' : (d == 0) = false := by simp; omega
  have h3 : ¬ 4611686018427387904 ≤ whi a := by omega
  have h4 : ¬ whi a < -4611686018427387904 := by omega
  clear eN hd hN hy
  have cp := Lib.hid (compare_lt (N + N) (y * 2305843009213693953) hc)
  clear hc
  have DV' := Lib.hid DV; clear DV
  go_enter Try.func11, Try.ntmps11
  go_wp2_with fail
  refine (example_any _).mono ?_
  rintro e w1 ⟨rfl, hb1⟩
  have hz1 := hb1.size
  simp at hz1
  have ca1 : w1.cell? ⟨w.heap.size, 0, none⟩ = some (.int .i64 (whi a)) := by rw [hb1.cell (by simp)]; simp [go_sem]
  have cb1 : w1.cell? ⟨w.heap.size, 1, none⟩ = some (.int .u64 (wlo a)) := by rw [hb1.cell (by simp)]; simp [go_sem]
  have HB1 : Below w.heap.size w w1 := ((Below.refl _ _).alloc (Nat.le_refl _) _).trans (hb1.mono (by simp))
  clear hb1
  go_wp2_with fail
  refine (DV'.out _).mono ?_
  rintro e w2 ⟨rfl, hb2⟩
  have hz2 := hb2.size
  have ca2 : w2.cell? ⟨w.heap.size, 0, none⟩ = some (.int .i64 (whi a)) := by rw [hb2.cell (by simp; omega), ca1]
  have cb2 : w2.cell? ⟨w.heap.size, 1, none⟩ = some (.int .u64 (wlo a)) := by rw [hb2.cell (by simp; omega), cb1]
  have HB2 : Below w.heap.size w w2 := HB1.trans (hb2.mono (by omega))
  have hlt : w.heap.size < w2.heap.size := by omega
  clear ca1 cb1 hb2 hz1 hz2 HB1
  go_wp2_with fail
  refine (o.out _).mono ?_
  rintro e w3 ⟨rfl, hb3⟩
  have hz3 := hb3.size
  have ca3 : w3.cell? ⟨w.heap.size, 0, none⟩ = some (.int .i64 (whi a)) := by rw [hb3.cell (by simp; omega), ca2]
  have cb3 : w3.cell? ⟨w.heap.size, 1, none⟩ = some (.int .u64 (wlo a)) := by rw [hb3.cell (by simp; omega), cb2]
  have HB3 : Below w.heap.size w w3 := HB2.trans (hb3.mono (by omega))
  have hlt3 : w.heap.size < w3.heap.size := by omega
  clear ca2 cb2 hb3 hz3 HB2 hlt
  go_wp2_with fail
  refine (ab2.out _).mono ?_
  rintro e w4 ⟨rfl, hb4⟩
  have hz4 := hb4.size
  have ca4 : w4.cell? ⟨w.heap.size, 0, none⟩ = some (.int .i64 (whi a)) := by rw [hb4.cell (by simp; omega), ca3]
  have cb4 : w4.cell? ⟨w.heap.size, 1, none⟩ = some (.int .u64 (wlo a)) := by rw [hb4.cell (by simp; omega), cb3]
  have HB4 : Below w.heap.size w w4 := HB3.trans (hb4.mono (by omega))
  have hlt4 : w.heap.size < w4.heap.size := by omega
  clear ca3 cb3 hb4 hz4 HB3 hlt3
  go_wp2_with fail
  refine (sc.out _).mono ?_
  rintro e w5 ⟨rfl, hb5⟩
  have hz5 := hb5.size
  simp at hz5
  have ca5 : w5.cell? ⟨w.heap.size, 0, none⟩ = some (.int .i64 (whi a)) := by rw [hb5.cell (by simp; omega)]; simp [go_sem, ca4, hlt4]
  have cb5 : w5.cell? ⟨w.heap.size, 1, none⟩ = some (.int .u64 (wlo a)) := by rw [hb5.cell (by simp; omega)]; simp [go_sem, cb4, hlt4]
  have HB5 : Below w.heap.size w w5 := (HB4.alloc (by omega) _).trans (hb5.mono (by simp; omega))
  have hlt5 : w.heap.size < w5.heap.size := by omega
  clear ca4 cb4 hb5 hz5 HB4 hlt4
  go_wp2_with fail
  refine (ab.out _).mono ?_
  rintro e w6 ⟨rfl, hb6⟩
  have hz6 := hb6.size
  simp at hz6
  have cc6 : w6.cell? ⟨w5.heap.size, 0, none⟩ = some (.int .i64 (whi (y * 2305843009213693953))) := by rw [hb6.cell (by simp)]; simp [go_sem]
  have cd6 : w6.cell? ⟨w5.heap.size, 1, none⟩ = some (.int .u64 (wlo (y * 2305843009213693953))) := by rw [hb6.cell (by simp)]; simp [go_sem]
  have HB6 : Below w.heap.size w w6 := (HB5.alloc (by omega) _).trans (hb6.mono (by simp; omega))
  have hlt6 : w5.heap.size < w6.heap.size := by omega
  clear ca5 cb5 hb6 hz6 HB5
  go_wp2_with fail
  refine (ad.out _).mono ?_
  rintro e w7 ⟨rfl, hb7⟩
  have hz7 := hb7.size
  simp at hz7
  have cc7 : w7.cell? ⟨w5.heap.size, 0, none⟩ = some (.int .i64 (whi (y * 2305843009213693953))) := by rw [hb7.cell (by simp; omega)]; simp [go_sem, cc6, hlt6]
  have cd7 : w7.cell? ⟨w5.heap.size, 1, none⟩ = some (.int .u64 (wlo (y * 2305843009213693953))) := by rw [hb7.cell (by simp; omega)]; simp [go_sem, cd6, hlt6]
  have ce7 : w7.cell? ⟨w6.heap.size, 0, none⟩ = some (.int .i64 (whi N)) := by rw [hb7.cell (by simp)]; simp [go_sem]
  have cf7 : w7.cell? ⟨w6.heap.size, 1, none⟩ = some (.int .u64 (wlo N)) := by rw [hb7.cell (by simp)]; simp [go_sem]
  have cg7 : w7.frozen? ⟨w6.heap.size, 0, none⟩ = false := by rw [hb7.frozen (by simp)]; simp [go_sem]
  have ch7 : w7.frozen? ⟨w6.heap.size, 1, none⟩ = false := by rw [hb7.frozen (by simp)]; simp [go_sem]
  have hne : w6.heap.size ≠ w5.heap.size := by omega
  have HB7 : Below w.heap.size w w7 := (HB6.alloc (by omega) _).trans (hb7.mono (by simp; omega))
  clear cc6 cd6 hb7 hz7 HB6
  go_wp2_with fail
  refine (cp.out _).mono ?_
  rintro e w8 ⟨rfl, hb8⟩
  go_wp2_with fail
  go_ret
  exact ⟨rfl, ((HB7.setCell (by simp; omega) _).setCell (by simp; omega) _).trans (hb8.mono (by simp; have := HB7.size; omega))⟩
set_option maxHeartbeats 1000000 in
theorem limit_eq (a d N y q : Int) (d1 : -9223372036854775808 ≤ d) (d2 : d ≤ 9223372036854775807) (hd : d ≠ 0) (hh1 : whi a < 4611686018427387904) (hh2 : -4611686018427387904 ≤ whi a) (hN : N = absI (norm a)) (hy : y = absI d) (hneg : 0 ≤ whi (N + N)) (hc : norm (N + N) = norm (y * 2305843009213693953))
    (DV : ∀ w, Calls Try.prog 18 #[.agg #[.int .i64 (whi a), .int .u64 (wlo a)], .int .i64 d] w fun e w' => e = .returned (.tuple #[.int .i64 q, .bool true]) ∧ Below w.heap.size w w') (w : World) :
    Calls Try.prog 11 #[.agg #[.int .i64 (whi a), .int .u64 (wlo a)], .int .i64 d] w fun e w' => e = .returned (.bool true) ∧ Below w.heap.size w w' := by
  have o := Lib.hid (of_any d (h1 := d1) (h2 := d2))
  have ab2 := Lib.hid (absolute_any d y (by rw [hy, norm_int d d1 d2]; rfl))
  have sc := Lib.hid (scale_any y 2305843009213693953 (by decide) (by decide))
  have ab := Lib.hid (fun w => absolute_any a _ rfl w)
  have eN : eqv (if norm a < 0 then -a else a) N := by
    have := norm_eqv a
    unfold absI at hN; unfold eqv at *; split <;> split at hN <;> omega
  rw [(halves_eqv eN).1, (halves_eqv eN).2] at ab
  have ad := Lib.hid (add_any N N)
  have hd' : (d == 0) = false := by simp; omega
  have h3 : ¬ 4611686018427387904 ≤ whi a := by omega
  have h4 : ¬ whi a < -4611686018427387904 := by omega
  clear eN hd hN hy
  have cp := Lib.hid (compare_eq (N + N) (y * 2305843009213693953) hc)
  clear hc
  have DV' := Lib.hid DV; clear DV
  go_enter Try.func11, Try.ntmps11
  go_wp2_with fail
  refine (example_any _).mono ?_
  rintro e w1 ⟨rfl, hb1⟩
  have hz1 := hb1.size
  simp at hz1
  have ca1 : w1.cell? ⟨w.heap.size, 0, none⟩ = some (.int .i64 (whi a)) := by rw [hb1.cell (by simp)]; simp [go_sem]
  have cb1 : w1.cell? ⟨w.heap.size, 1, none⟩ = some (.int .u64 (wlo a)) := by rw [hb1.cell (by simp)]; simp [go_sem]
  have HB1 : Below w.heap.size w w1 := ((Below.refl _ _).alloc (Nat.le_refl _) _).trans (hb1.mono (by simp))
  clear hb1
  go_wp2_with fail
  refine (DV'.out _).mono ?_
  rintro e w2 ⟨rfl, hb2⟩
  have hz2 := hb2.size
  have ca2 : w2.cell? ⟨w.heap.size, 0, none⟩ = some (.int .i64 (whi a)) := by rw [hb2.cell (by simp; omega), ca1]
  have cb2 : w2.cell? ⟨w.heap.size, 1, none⟩ = some (.int .u64 (wlo a)) := by rw [hb2.cell (by simp; omega), cb1]
  have HB2 : Below w.heap.size w w2 := HB1.trans (hb2.mono (by omega))
  have hlt : w.heap.size < w2.heap.size := by omega
  clear ca1 cb1 hb2 hz1 hz2 HB1
  go_wp2_with fail
  refine (o.out _).mono ?_
  rintro e w3 ⟨rfl, hb3⟩
  have hz3 := hb3.size
  have ca3 : w3.cell? ⟨w.heap.size, 0, none⟩ = some (.int .i64 (whi a)) := by rw [hb3.cell (by simp; omega), ca2]
  have cb3 : w3.cell? ⟨w.heap.size, 1, none⟩ = some (.int .u64 (wlo a)) := by rw [hb3.cell (by simp; omega), cb2]
  have HB3 : Below w.heap.size w w3 := HB2.trans (hb3.mono (by omega))
  have hlt3 : w.heap.size < w3.heap.size := by omega
  clear ca2 cb2 hb3 hz3 HB2 hlt
  go_wp2_with fail
  refine (ab2.out _).mono ?_
  rintro e w4 ⟨rfl, hb4⟩
  have hz4 := hb4.size
  have ca4 : w4.cell? ⟨w.heap.size, 0, none⟩ = some (.int .i64 (whi a)) := by rw [hb4.cell (by simp; omega), ca3]
  have cb4 : w4.cell? ⟨w.heap.size, 1, none⟩ = some (.int .u64 (wlo a)) := by rw [hb4.cell (by simp; omega), cb3]
  have HB4 : Below w.heap.size w w4 := HB3.trans (hb4.mono (by omega))
  have hlt4 : w.heap.size < w4.heap.size := by omega
  clear ca3 cb3 hb4 hz4 HB3 hlt3
  go_wp2_with fail
  refine (sc.out _).mono ?_
  rintro e w5 ⟨rfl, hb5⟩
  have hz5 := hb5.size
  simp at hz5
  have ca5 : w5.cell? ⟨w.heap.size, 0, none⟩ = some (.int .i64 (whi a)) := by rw [hb5.cell (by simp; omega)]; simp [go_sem, ca4, hlt4]
  have cb5 : w5.cell? ⟨w.heap.size, 1, none⟩ = some (.int .u64 (wlo a)) := by rw [hb5.cell (by simp; omega)]; simp [go_sem, cb4, hlt4]
  have HB5 : Below w.heap.size w w5 := (HB4.alloc (by omega) _).trans (hb5.mono (by simp; omega))
  have hlt5 : w.heap.size < w5.heap.size := by omega
  clear ca4 cb4 hb5 hz5 HB4 hlt4
  go_wp2_with fail
  refine (ab.out _).mono ?_
  rintro e w6 ⟨rfl, hb6⟩
  have hz6 := hb6.size
  simp at hz6
  have cc6 : w6.cell? ⟨w5.heap.size, 0, none⟩ = some (.int .i64 (whi (y * 2305843009213693953))) := by rw [hb6.cell (by simp)]; simp [go_sem]
  have cd6 : w6.cell? ⟨w5.heap.size, 1, none⟩ = some (.int .u64 (wlo (y * 2305843009213693953))) := by rw [hb6.cell (by simp)]; simp [go_sem]
  have HB6 : Below w.heap.size w w6 := (HB5.alloc (by omega) _).trans (hb6.mono (by simp; omega))
  have hlt6 : w5.heap.size < w6.heap.size := by omega
  clear ca5 cb5 hb6 hz6 HB5
  go_wp2_with fail
  refine (ad.out _).mono ?_
  rintro e w7 ⟨rfl, hb7⟩
  have hz7 := hb7.size
  simp at hz7
  have cc7 : w7.cell? ⟨w5.heap.size, 0, none⟩ = some (.int .i64 (whi (y * 2305843009213693953))) := by rw [hb7.cell (by simp; omega)]; simp [go_sem, cc6, hlt6]
  have cd7 : w7.cell? ⟨w5.heap.size, 1, none⟩ = some (.int .u64 (wlo (y * 2305843009213693953))) := by rw [hb7.cell (by simp; omega)]; simp [go_sem, cd6, hlt6]
  have ce7 : w7.cell? ⟨w6.heap.size, 0, none⟩ = some (.int .i64 (whi N)) := by rw [hb7.cell (by simp)]; simp [go_sem]
  have cf7 : w7.cell? ⟨w6.heap.size, 1, none⟩ = some (.int .u64 (wlo N)) := by rw [hb7.cell (by simp)]; simp [go_sem]
  have cg7 : w7.frozen? ⟨w6.heap.size, 0, none⟩ = false := by rw [hb7.frozen (by simp)]; simp [go_sem]
  have ch7 : w7.frozen? ⟨w6.heap.size, 1, none⟩ = false := by rw [hb7.frozen (by simp)]; simp [go_sem]
  have hne : w6.heap.size ≠ w5.heap.size := by omega
  have HB7 : Below w.heap.size w w7 := (HB6.alloc (by omega) _).trans (hb7.mono (by simp; omega))
  clear cc6 cd6 hb7 hz7 HB6
  go_wp2_with fail
  refine (cp.out _).mono ?_
  rintro e w8 ⟨rfl, hb8⟩
  go_wp2_with fail
  go_ret
  exact ⟨rfl, ((HB7.setCell (by simp; omega) _).setCell (by simp; omega) _).trans (hb8.mono (by simp; have := HB7.size; omega))⟩
set_option maxHeartbeats 1000000 in
theorem limit_no (a d N y q : Int) (d1 : -9223372036854775808 ≤ d) (d2 : d ≤ 9223372036854775807) (hd : d ≠ 0) (hh1 : whi a < 4611686018427387904) (hh2 : -4611686018427387904 ≤ whi a) (hN : N = absI (norm a)) (hy : y = absI d) (hneg : 0 ≤ whi (N + N)) (hc : norm (y * 2305843009213693953) < norm (N + N))
    (DV : ∀ w, Calls Try.prog 18 #[.agg #[.int .i64 (whi a), .int .u64 (wlo a)], .int .i64 d] w fun e w' => e = .returned (.tuple #[.int .i64 q, .bool false]) ∧ Below w.heap.size w w') (w : World) :
    Calls Try.prog 11 #[.agg #[.int .i64 (whi a), .int .u64 (wlo a)], .int .i64 d] w fun e w' => e = .returned (.bool true) ∧ Below w.heap.size w w' := by
  have o := Lib.hid (of_any d (h1 := d1) (h2 := d2))
  have ab2 := Lib.hid (absolute_any d y (by rw [hy, norm_int d d1 d2]; rfl))
  have sc := Lib.hid (scale_any y 2305843009213693953 (by decide) (by decide))
  have ab := Lib.hid (fun w => absolute_any a _ rfl w)
  have eN : eqv (if norm a < 0 then -a else a) N := by
    have := norm_eqv a
    unfold absI at hN; unfold eqv at *; split <;> split at hN <;> omega
  rw [(halves_eqv eN).1, (halves_eqv eN).2] at ab
  have ad := Lib.hid (add_any N N)
  have hd' : (d == 0) = false := by simp; omega
  have h3 : ¬ 4611686018427387904 ≤ whi a := by omega
  have h4 : ¬ whi a < -4611686018427387904 := by omega
  clear eN hd hN hy
  have cp := Lib.hid (compare_gt (N + N) (y * 2305843009213693953) hc)
  clear hc
  have DV' := Lib.hid DV; clear DV
  go_enter Try.func11, Try.ntmps11
  go_wp2_with fail
  refine (example_any _).mono ?_
  rintro e w1 ⟨rfl, hb1⟩
  have hz1 := hb1.size
  simp at hz1
  have ca1 : w1.cell? ⟨w.heap.size, 0, none⟩ = some (.int .i64 (whi a)) := by rw [hb1.cell (by simp)]; simp [go_sem]
  have cb1 : w1.cell? ⟨w.heap.size, 1, none⟩ = some (.int .u64 (wlo a)) := by rw [hb1.cell (by simp)]; simp [go_sem]
  have HB1 : Below w.heap.size w w1 := ((Below.refl _ _).alloc (Nat.le_refl _) _).trans (hb1.mono (by simp))
  clear hb1
  go_wp2_with fail
  refine (DV'.out _).mono ?_
  rintro e w2 ⟨rfl, hb2⟩
  have hz2 := hb2.size
  have ca2 : w2.cell? ⟨w.heap.size, 0, none⟩ = some (.int .i64 (whi a)) := by rw [hb2.cell (by simp; omega), ca1]
  have cb2 : w2.cell? ⟨w.heap.size, 1, none⟩ = some (.int .u64 (wlo a)) := by rw [hb2.cell (by simp; omega), cb1]
  have HB2 : Below w.heap.size w w2 := HB1.trans (hb2.mono (by omega))
  have hlt : w.heap.size < w2.heap.size := by omega
  clear ca1 cb1 hb2 hz1 hz2 HB1
  go_wp2_with fail
  refine (o.out _).mono ?_
  rintro e w3 ⟨rfl, hb3⟩
  have hz3 := hb3.size
  have ca3 : w3.cell? ⟨w.heap.size, 0, none⟩ = some (.int .i64 (whi a)) := by rw [hb3.cell (by simp; omega), ca2]
  have cb3 : w3.cell? ⟨w.heap.size, 1, none⟩ = some (.int .u64 (wlo a)) := by rw [hb3.cell (by simp; omega), cb2]
  have HB3 : Below w.heap.size w w3 := HB2.trans (hb3.mono (by omega))
  have hlt3 : w.heap.size < w3.heap.size := by omega
  clear ca2 cb2 hb3 hz3 HB2 hlt
  go_wp2_with fail
  refine (ab2.out _).mono ?_
  rintro e w4 ⟨rfl, hb4⟩
  have hz4 := hb4.size
  have ca4 : w4.cell? ⟨w.heap.size, 0, none⟩ = some (.int .i64 (whi a)) := by rw [hb4.cell (by simp; omega), ca3]
  have cb4 : w4.cell? ⟨w.heap.size, 1, none⟩ = some (.int .u64 (wlo a)) := by rw [hb4.cell (by simp; omega), cb3]
  have HB4 : Below w.heap.size w w4 := HB3.trans (hb4.mono (by omega))
  have hlt4 : w.heap.size < w4.heap.size := by omega
  clear ca3 cb3 hb4 hz4 HB3 hlt3
  go_wp2_with fail
  refine (sc.out _).mono ?_
  rintro e w5 ⟨rfl, hb5⟩
  have hz5 := hb5.size
  simp at hz5
  have ca5 : w5.cell? ⟨w.heap.size, 0, none⟩ = some (.int .i64 (whi a)) := by rw [hb5.cell (by simp; omega)]; simp [go_sem, ca4, hlt4]
  have cb5 : w5.cell? ⟨w.heap.size, 1, none⟩ = some (.int .u64 (wlo a)) := by rw [hb5.cell (by simp; omega)]; simp [go_sem, cb4, hlt4]
  have HB5 : Below w.heap.size w w5 := (HB4.alloc (by omega) _).trans (hb5.mono (by simp; omega))
  have hlt5 : w.heap.size < w5.heap.size := by omega
  clear ca4 cb4 hb5 hz5 HB4 hlt4
  go_wp2_with fail
  refine (ab.out _).mono ?_
  rintro e w6 ⟨rfl, hb6⟩
  have hz6 := hb6.size
  simp at hz6
  have cc6 : w6.cell? ⟨w5.heap.size, 0, none⟩ = some (.int .i64 (whi (y * 2305843009213693953))) := by rw [hb6.cell (by simp)]; simp [go_sem]
  have cd6 : w6.cell? ⟨w5.heap.size, 1, none⟩ = some (.int .u64 (wlo (y * 2305843009213693953))) := by rw [hb6.cell (by simp)]; simp [go_sem]
  have HB6 : Below w.heap.size w w6 := (HB5.alloc (by omega) _).trans (hb6.mono (by simp; omega))
  have hlt6 : w5.heap.size < w6.heap.size := by omega
  clear ca5 cb5 hb6 hz6 HB5
  go_wp2_with fail
  refine (ad.out _).mono ?_
  rintro e w7 ⟨rfl, hb7⟩
  have hz7 := hb7.size
  simp at hz7
  have cc7 : w7.cell? ⟨w5.heap.size, 0, none⟩ = some (.int .i64 (whi (y * 2305843009213693953))) := by rw [hb7.cell (by simp; omega)]; simp [go_sem, cc6, hlt6]
  have cd7 : w7.cell? ⟨w5.heap.size, 1, none⟩ = some (.int .u64 (wlo (y * 2305843009213693953))) := by rw [hb7.cell (by simp; omega)]; simp [go_sem, cd6, hlt6]
  have ce7 : w7.cell? ⟨w6.heap.size, 0, none⟩ = some (.int .i64 (whi N)) := by rw [hb7.cell (by simp)]; simp [go_sem]
  have cf7 : w7.cell? ⟨w6.heap.size, 1, none⟩ = some (.int .u64 (wlo N)) := by rw [hb7.cell (by simp)]; simp [go_sem]
  have cg7 : w7.frozen? ⟨w6.heap.size, 0, none⟩ = false := by rw [hb7.frozen (by simp)]; simp [go_sem]
  have ch7 : w7.frozen? ⟨w6.heap.size, 1, none⟩ = false := by rw [hb7.frozen (by simp)]; simp [go_sem]
  have hne : w6.heap.size ≠ w5.heap.size := by omega
  have HB7 : Below w.heap.size w w7 := (HB6.alloc (by omega) _).trans (hb7.mono (by simp; omega))
  clear cc6 cd6 hb7 hz7 HB6
  go_wp2_with fail
  refine (cp.out _).mono ?_
  rintro e w8 ⟨rfl, hb8⟩
  go_wp2_with fail
  go_ret
  exact ⟨rfl, ((HB7.setCell (by simp; omega) _).setCell (by simp; omega) _).trans (hb8.mono (by simp; have := HB7.size; omega))⟩

theorem limit_walk (a d : Int) (d1 : -9223372036854775808 ≤ d) (d2 : d ≤ 9223372036854775807) (w : World) :
    Calls Try.prog 11 #[.agg #[.int .i64 (whi a), .int .u64 (wlo a)], .int .i64 d] w fun e w' => e = .returned (.bool true) ∧ Below w.heap.size w w' := by
  have DV := fun w => divide_any a d d1 d2 w
  have l0 := wlo_lo a
  have l1 := wlo_hi a
  have hna := norm_def a
  by_cases hd : d = 0
  · rw [rounds_none (norm a) d (Or.inl hd)] at DV
    exact limit_zero a d hd DV w
  · by_cases h1 : 4611686018427387904 ≤ whi a
    · rw [limit_far (norm a) d d1 d2 (by unfold absI; split <;> omega)] at DV
      exact limit_up a d hd h1 DV w
    · by_cases h2 : whi a < -4611686018427387904
      · rw [limit_far (norm a) d d1 d2 (by unfold absI; split <;> omega)] at DV
        exact limit_down a d hd h2 DV w
      · have hh1 : whi a < 4611686018427387904 := by omega
        have hh2 : -4611686018427387904 ≤ whi a := by omega
        obtain ⟨N, hN⟩ : ∃ N, N = absI (norm a) := ⟨_, rfl⟩
        obtain ⟨y, hy⟩ : ∃ y, y = absI d := ⟨_, rfl⟩
        have N0 : 0 ≤ N := by rw [hN]; exact absI_nonneg _
        have N1 : N ≤ 85070591730234615865843651857942052864 := by rw [hN]; unfold absI; split <;> omega
        have y0 : 0 < y := by rw [hy]; unfold absI; split <;> omega
        have y1 : y ≤ 9223372036854775808 := by rw [hy]; unfold absI; split <;> omega
        have li := limit_iff N y N0 y0
        have ny : norm (y * 2305843009213693953) = y * 2305843009213693953 := norm_in _ (by omega) (by omega)
        by_cases h3 : N = 85070591730234615865843651857942052864
        · rw [limit_far (norm a) d d1 d2 (by rw [← hN]; omega)] at DV
          exact limit_neg a d N y 0 d1 d2 hd hh1 hh2 hN hy (by rw [h3]; decide) DV w
        · have nn : norm (N + N) = N + N := norm_in _ (by omega) (by omega)
          have hp : 0 ≤ whi (N + N) := by have := wlo_hi (N + N); have := norm_def (N + N); omega
          by_cases h4 : upq N y ≤ 1152921504606846976
          · obtain ⟨q, e, -⟩ := rounds_plain (norm a) d hd (by rw [← hN, ← hy]; exact h4)
            rw [e] at DV
            have := li.1 h4
            by_cases h5 : N + N = y * 2305843009213693953
            · exact limit_eq a d N y q d1 d2 hd hh1 hh2 hN hy hp (nn.trans (h5.trans ny.symm)) DV w
            · exact limit_yes a d N y q d1 d2 hd hh1 hh2 hN hy hp (by omega) DV w
          · rw [rounds_none (norm a) d (Or.inr (by rw [← hN, ← hy]; omega))] at DV
            have : ¬ N + N ≤ y * 2305843009213693953 := fun k => h4 (li.2 k)
            exact limit_no a d N y 0 d1 d2 hd hh1 hh2 hN hy hp (by omega) DV w
end Go.Proofs.Ytjjibddpgjoeeaa
