import Derived.Test.YtiahadohgfahcaaDoorSumsWalk
namespace Go.Proofs.YtiahadohgfahcaaDoor
open Go.ChangeShapes Go.WideShapes Go.ChangeAt Go.RowKit Go.Sort
set_option linter.unusedVariables false

theorem fromR_in (n : Int) (h1 : -1152921504606 ≤ n) (h2 : n ≤ 1152921504606) : fromR n = (n * 1000000, true) := if_pos ⟨h1, h2⟩
theorem fromR_out (n : Int) (h : ¬ (-1152921504606 ≤ n ∧ n ≤ 1152921504606)) : fromR n = (0, false) := if_neg h
theorem toR_from (m : Int) : toR (m * 1000000) = m := by
  unfold toR
  rw [if_neg (by omega)]
  omega
theorem signed_abs (v : Int) (s : Bool) (h : s = decide (v < 0) ∨ v = 0) : (if s = true then -(absI v) else absI v) = v := by
  rcases h with h | h
  · subst h
    by_cases k : v < 0
    · rw [if_pos (decide_eq_true k), show absI v = -v from if_pos k]; omega
    · rw [if_neg (by simpa using k), show absI v = v from if_neg k]
  · subst h
    cases s <;> rfl
theorem mulR_micro (m : Int) (h1 : -1152921504606 ≤ m) (h2 : m ≤ 1152921504606) : mulR (m * 1000000) 1000000 = (m * 1000000, true) := by
  unfold mulR
  have a2 := absI_hi (n := m * 1000000) (by omega) (by omega)
  rw [if_pos ⟨fit_of (by omega) (by omega), by decide⟩, show absI 1000000 = 1000000 from by decide, sc_exact _ _ _ (absI_lo _) (by decide), if_neg (by omega), signed_abs]
  left
  rw [show decide ((1000000 : Int) < 0) = false from by decide, Bool.bne_false]
theorem prod_sign (x y : Int) : (decide (x < 0) != decide (y < 0)) = decide (x * y < 0) ∨ x * y = 0 := by
  rcases Int.lt_trichotomy x 0 with h | h | h
  · rcases Int.lt_trichotomy y 0 with k | k | k
    · left
      have := Int.mul_pos_of_neg_of_neg h k
      rw [decide_eq_true h, decide_eq_true k, decide_eq_false (by omega)]; rfl
    · right; subst k; simp
    · left
      have := Int.mul_neg_of_neg_of_pos h k
      rw [decide_eq_true h, decide_eq_false (by omega), decide_eq_true this]; rfl
  · right; subst h; simp
  · rcases Int.lt_trichotomy y 0 with k | k | k
    · left
      have := Int.mul_neg_of_pos_of_neg h k
      rw [decide_eq_false (by omega), decide_eq_true k, decide_eq_true this]; rfl
    · right; subst k; simp
    · left
      have := Int.mul_pos h k
      rw [decide_eq_false (by omega), decide_eq_false (by omega), decide_eq_false (by omega)]; rfl
theorem micro_pull (m n : Int) : absI (m * 1000000) * absI (n * 1000000) = absI (m * n * 1000000) * 1000000 := by
  rw [absI_mul m 1000000, absI_mul n 1000000, absI_mul (m * n) 1000000, absI_mul m n, show absI 1000000 = 1000000 from by decide]
  rw [Int.mul_assoc (absI m) 1000000, Int.mul_comm 1000000 (absI n * 1000000), ← Int.mul_assoc (absI m), ← Int.mul_assoc (absI m)]
theorem neg_scale (m : Int) : decide (m * 1000000 < 0) = decide (m < 0) := by apply decide_eq_decide.2; omega
theorem mulR_whole (m n : Int) (h1 : -1152921504606 ≤ m) (h2 : m ≤ 1152921504606) (k1 : -1152921504606 ≤ n) (k2 : n ≤ 1152921504606) :
    mulR (m * 1000000) (n * 1000000) = if 1152921504606846976 < absI (m * n * 1000000) then (0, false) else (m * n * 1000000, true) := by
  unfold mulR
  rw [if_pos ⟨fit_of (by omega) (by omega), fit_of (by omega) (by omega)⟩, micro_pull, sc_exact _ _ _ (absI_lo _) (by decide)]
  split
  · rfl
  · rw [signed_abs]
    rw [neg_scale, neg_scale, neg_scale]
    rcases prod_sign m n with h | h
    · left; exact h
    · right; rw [h]; rfl
theorem divR_whole (m n : Int) (h1 : -1152921504606 ≤ m) (h2 : m ≤ 1152921504606) (k1 : -1152921504606 ≤ n) (k2 : n ≤ 1152921504606) (p1 : -1152921504606 ≤ m * n) (p2 : m * n ≤ 1152921504606) (hn : n ≠ 0) :
    divR (m * n * 1000000) (n * 1000000) = (m * 1000000, true) := by
  have a2 := absI_hi (n := m * 1000000) (by omega) (by omega)
  have hz : n * 1000000 ≠ 0 := by omega
  unfold divR
  rw [if_pos ⟨fit_of (by omega) (by omega), fit_of (by omega) (by omega), hz⟩, ← micro_pull, sc_exact _ _ _ (absI_lo _) (absI_pos hz), if_neg (by omega), signed_abs]
  rw [neg_scale, neg_scale, neg_scale]
  by_cases hm : m = 0
  · right; subst hm; rfl
  · left
    rcases prod_sign m n with h | h
    · rw [← h]
      cases decide (m < 0) <;> cases decide (n < 0) <;> rfl
    · rcases Int.mul_eq_zero.1 h with k | k
      · exact absurd k hm
      · exact absurd k hn
theorem divR_zero (a : Int) : divR a 0 = (0, false) := by unfold divR; rw [if_neg (by simp)]

set_option maxHeartbeats 8000000 in
set_option maxRecDepth 100000 in
theorem whole_no (m n x y : Int) (q : Bool) (m1 : -9223372036854775808 ≤ m) (m2 : m ≤ 9223372036854775807) (n1 : -9223372036854775808 ≤ n) (n2 : n ≤ 9223372036854775807)
    (A : ∀ w, Calls Tryd.prog 8 #[.int .i64 m] w fun e w' => e = .returned (.tuple #[.int .i64 x, .bool false]) ∧ w = w')
    (A2 : ∀ w, Calls Tryd.prog 8 #[.int .i64 n] w fun e w' => e = .returned (.tuple #[.int .i64 y, .bool q]) ∧ w = w')
    (w : World) (h : Tabs w) :
    Calls Tryd.prog 5 #[.int .i64 m, .int .i64 n] w fun e w' => e = .returned (.bool true) ∧ Below w.heap.size w w' := by
  have HE := Lib.hid (example_any w h)
  clear h
  have HA := Lib.hid A; clear A
  have HA2 := Lib.hid A2; clear A2
  go_enter Tryd.func5, Tryd.ntmps5
  go_wp2_with fail
  refine HE.out.mono ?_
  rintro e w1 ⟨rfl, hb1⟩
  go_wp2_with fail
  (with_reducible refine (HA.out _).mono ?_)
  rintro e v ⟨rfl, rfl⟩
  go_wp2_with fail
  (with_reducible refine (HA2.out _).mono ?_)
  rintro e v ⟨rfl, rfl⟩
  go_wp2_with fail
  go_ret
  have z1 := hb1.size
  exact ⟨rfl, hb1⟩

set_option maxHeartbeats 8000000 in
set_option maxRecDepth 100000 in
theorem whole_half (m n x y : Int) (m1 : -9223372036854775808 ≤ m) (m2 : m ≤ 9223372036854775807) (n1 : -9223372036854775808 ≤ n) (n2 : n ≤ 9223372036854775807)
    (A : ∀ w, Calls Tryd.prog 8 #[.int .i64 m] w fun e w' => e = .returned (.tuple #[.int .i64 x, .bool true]) ∧ w = w')
    (A2 : ∀ w, Calls Tryd.prog 8 #[.int .i64 n] w fun e w' => e = .returned (.tuple #[.int .i64 y, .bool false]) ∧ w = w')
    (w : World) (h : Tabs w) :
    Calls Tryd.prog 5 #[.int .i64 m, .int .i64 n] w fun e w' => e = .returned (.bool true) ∧ Below w.heap.size w w' := by
  have HE := Lib.hid (example_any w h)
  clear h
  have HA := Lib.hid A; clear A
  have HA2 := Lib.hid A2; clear A2
  go_enter Tryd.func5, Tryd.ntmps5
  go_wp2_with fail
  refine HE.out.mono ?_
  rintro e w1 ⟨rfl, hb1⟩
  go_wp2_with fail
  (with_reducible refine (HA.out _).mono ?_)
  rintro e v ⟨rfl, rfl⟩
  go_wp2_with fail
  (with_reducible refine (HA2.out _).mono ?_)
  rintro e v ⟨rfl, rfl⟩
  go_wp2_with fail
  go_ret
  have z1 := hb1.size
  exact ⟨rfl, hb1⟩

set_option maxHeartbeats 8000000 in
set_option maxRecDepth 100000 in
theorem whole_00 (m n x y sx bx k dx : Int) (sb dp : Bool) (m1 : -1152921504606 ≤ m) (m2 : m ≤ 1152921504606) (n1 : -1152921504606 ≤ n) (n2 : n ≤ 1152921504606) (hx : x = m * 1000000) (hy : y = n * 1000000)
    (A : ∀ w, Calls Tryd.prog 8 #[.int .i64 m] w fun e w' => e = .returned (.tuple #[.int .i64 x, .bool true]) ∧ w = w')
    (A2 : ∀ w, Calls Tryd.prog 8 #[.int .i64 n] w fun e w' => e = .returned (.tuple #[.int .i64 y, .bool true]) ∧ w = w')
    (S : ∀ w, Calls Tryd.prog 13 #[.int .i64 x, .int .i64 y] w fun e w' => e = .returned (.tuple #[.int .i64 sx, .bool false]) ∧ w = w')
    (S2 : ∀ w, Calls Tryd.prog 8 #[.int .i64 (m + n)] w fun e w' => e = .returned (.tuple #[.int .i64 bx, .bool sb]) ∧ w = w')
    (T : ∀ w, Calls Tryd.prog 11 #[.int .i64 x] w fun e w' => e = .returned (.int .i64 m) ∧ w = w')
    (L : ∀ w, Calls Tryd.prog 17 #[.int .i64 x, .int .i64 1000000] w fun e w' => e = .returned (.tuple #[.int .i64 x, .bool true]) ∧ Below w.heap.size w w')
    (L2 : ∀ w, Calls Tryd.prog 17 #[.int .i64 x, .int .i64 y] w fun e w' => e = .returned (.tuple #[.int .i64 k, .bool false]) ∧ Below w.heap.size w w')
    (w : World) (h : Tabs w) :
    Calls Tryd.prog 5 #[.int .i64 m, .int .i64 n] w fun e w' => e = .returned (.bool true) ∧ Below w.heap.size w w' := by
  have HE := Lib.hid (example_any w h)
  clear h
  have HA := Lib.hid A; clear A
  have HA2 := Lib.hid A2; clear A2
  have HS := Lib.hid S; clear S
  have HS2 := Lib.hid S2; clear S2
  have HT := Lib.hid T; clear T
  have HL := Lib.hid L; clear L
  have HL2 := Lib.hid L2; clear L2
  clear hx hy
  go_enter Tryd.func5, Tryd.ntmps5
  go_wp2_with fail
  refine HE.out.mono ?_
  rintro e w1 ⟨rfl, hb1⟩
  go_wp2_with fail
  (with_reducible refine (HA.out _).mono ?_)
  rintro e v ⟨rfl, rfl⟩
  go_wp2_with fail
  (with_reducible refine (HA2.out _).mono ?_)
  rintro e v ⟨rfl, rfl⟩
  go_wp2_with fail
  (with_reducible refine (HS.out _).mono ?_)
  rintro e v ⟨rfl, rfl⟩
  go_wp2_with fail
  (with_reducible refine (HS2.out _).mono ?_)
  rintro e v ⟨rfl, rfl⟩
  go_wp2_with fail
  (with_reducible refine (HT.out _).mono ?_)
  rintro e v ⟨rfl, rfl⟩
  go_wp2_with fail
  (with_reducible refine (HL.out _).mono ?_)
  rintro e w2 ⟨rfl, hb2⟩
  go_wp2_with fail
  refine (is_same _ _ _).mono ?_
  rintro e v ⟨rfl, rfl⟩
  go_wp2_with fail
  (with_reducible refine (HL2.out _).mono ?_)
  rintro e w3 ⟨rfl, hb3⟩
  go_wp2_with fail
  go_ret
  have z1 := hb1.size
  have z2 := hb2.size
  have z3 := hb3.size
  exact ⟨rfl, ((hb1).trans (hb2.mono (by omega))).trans (hb3.mono (by omega))⟩

set_option maxHeartbeats 8000000 in
set_option maxRecDepth 100000 in
theorem whole_01z (m n x y sx bx k dx : Int) (sb dp : Bool) (m1 : -1152921504606 ≤ m) (m2 : m ≤ 1152921504606) (n1 : -1152921504606 ≤ n) (n2 : n ≤ 1152921504606) (hx : x = m * 1000000) (hy : y = n * 1000000) (p1 : -1152921504606 ≤ m * n) (p2 : m * n ≤ 1152921504606) (hn : n = 0)
    (A : ∀ w, Calls Tryd.prog 8 #[.int .i64 m] w fun e w' => e = .returned (.tuple #[.int .i64 x, .bool true]) ∧ w = w')
    (A2 : ∀ w, Calls Tryd.prog 8 #[.int .i64 n] w fun e w' => e = .returned (.tuple #[.int .i64 y, .bool true]) ∧ w = w')
    (S : ∀ w, Calls Tryd.prog 13 #[.int .i64 x, .int .i64 y] w fun e w' => e = .returned (.tuple #[.int .i64 sx, .bool false]) ∧ w = w')
    (S2 : ∀ w, Calls Tryd.prog 8 #[.int .i64 (m + n)] w fun e w' => e = .returned (.tuple #[.int .i64 bx, .bool sb]) ∧ w = w')
    (T : ∀ w, Calls Tryd.prog 11 #[.int .i64 x] w fun e w' => e = .returned (.int .i64 m) ∧ w = w')
    (L : ∀ w, Calls Tryd.prog 17 #[.int .i64 x, .int .i64 1000000] w fun e w' => e = .returned (.tuple #[.int .i64 x, .bool true]) ∧ Below w.heap.size w w')
    (L2 : ∀ w, Calls Tryd.prog 17 #[.int .i64 x, .int .i64 y] w fun e w' => e = .returned (.tuple #[.int .i64 k, .bool true]) ∧ Below w.heap.size w w')
    (S3 : ∀ w, Calls Tryd.prog 8 #[.int .i64 (m * n)] w fun e w' => e = .returned (.tuple #[.int .i64 k, .bool true]) ∧ w = w')
    (D : ∀ w, Calls Tryd.prog 18 #[.int .i64 k, .int .i64 y] w fun e w' => e = .returned (.tuple #[.int .i64 dx, .bool dp]) ∧ Below w.heap.size w w')
    (w : World) (h : Tabs w) :
    Calls Tryd.prog 5 #[.int .i64 m, .int .i64 n] w fun e w' => e = .returned (.bool true) ∧ Below w.heap.size w w' := by
  have HE := Lib.hid (example_any w h)
  clear h
  have HA := Lib.hid A; clear A
  have HA2 := Lib.hid A2; clear A2
  have HS := Lib.hid S; clear S
  have HS2 := Lib.hid S2; clear S2
  have HT := Lib.hid T; clear T
  have HL := Lib.hid L; clear L
  have HL2 := Lib.hid L2; clear L2
  have HS3 := Lib.hid S3; clear S3
  have HD := Lib.hid D; clear D
  clear hx hy
  have en : (n == 0) = true := by simp; omega
  clear hn
  go_enter Tryd.func5, Tryd.ntmps5
  go_wp2_with fail
  refine HE.out.mono ?_
  rintro e w1 ⟨rfl, hb1⟩
  go_wp2_with fail
  (with_reducible refine (HA.out _).mono ?_)
  rintro e v ⟨rfl, rfl⟩
  go_wp2_with fail
  (with_reducible refine (HA2.out _).mono ?_)
  rintro e v ⟨rfl, rfl⟩
  go_wp2_with fail
  (with_reducible refine (HS.out _).mono ?_)
  rintro e v ⟨rfl, rfl⟩
  go_wp2_with fail
  (with_reducible refine (HS2.out _).mono ?_)
  rintro e v ⟨rfl, rfl⟩
  go_wp2_with fail
  (with_reducible refine (HT.out _).mono ?_)
  rintro e v ⟨rfl, rfl⟩
  go_wp2_with fail
  (with_reducible refine (HL.out _).mono ?_)
  rintro e w2 ⟨rfl, hb2⟩
  go_wp2_with fail
  refine (is_same _ _ _).mono ?_
  rintro e v ⟨rfl, rfl⟩
  go_wp2_with fail
  (with_reducible refine (HL2.out _).mono ?_)
  rintro e w3 ⟨rfl, hb3⟩
  go_wp2_with fail
  (with_reducible refine (HS3.out _).mono ?_)
  rintro e v ⟨rfl, rfl⟩
  go_wp2_with fail
  (with_reducible refine (HD.out _).mono ?_)
  rintro e w4 ⟨rfl, hb4⟩
  go_wp2_with fail
  go_ret
  have z1 := hb1.size
  have z2 := hb2.size
  have z3 := hb3.size
  have z4 := hb4.size
  exact ⟨rfl, (((hb1).trans (hb2.mono (by omega))).trans (hb3.mono (by omega))).trans (hb4.mono (by omega))⟩

set_option maxHeartbeats 8000000 in
set_option maxRecDepth 100000 in
theorem whole_01n (m n x y sx bx k dx : Int) (sb dp : Bool) (m1 : -1152921504606 ≤ m) (m2 : m ≤ 1152921504606) (n1 : -1152921504606 ≤ n) (n2 : n ≤ 1152921504606) (hx : x = m * 1000000) (hy : y = n * 1000000) (p1 : -1152921504606 ≤ m * n) (p2 : m * n ≤ 1152921504606) (hn : n ≠ 0)
    (A : ∀ w, Calls Tryd.prog 8 #[.int .i64 m] w fun e w' => e = .returned (.tuple #[.int .i64 x, .bool true]) ∧ w = w')
    (A2 : ∀ w, Calls Tryd.prog 8 #[.int .i64 n] w fun e w' => e = .returned (.tuple #[.int .i64 y, .bool true]) ∧ w = w')
    (S : ∀ w, Calls Tryd.prog 13 #[.int .i64 x, .int .i64 y] w fun e w' => e = .returned (.tuple #[.int .i64 sx, .bool false]) ∧ w = w')
    (S2 : ∀ w, Calls Tryd.prog 8 #[.int .i64 (m + n)] w fun e w' => e = .returned (.tuple #[.int .i64 bx, .bool sb]) ∧ w = w')
    (T : ∀ w, Calls Tryd.prog 11 #[.int .i64 x] w fun e w' => e = .returned (.int .i64 m) ∧ w = w')
    (L : ∀ w, Calls Tryd.prog 17 #[.int .i64 x, .int .i64 1000000] w fun e w' => e = .returned (.tuple #[.int .i64 x, .bool true]) ∧ Below w.heap.size w w')
    (L2 : ∀ w, Calls Tryd.prog 17 #[.int .i64 x, .int .i64 y] w fun e w' => e = .returned (.tuple #[.int .i64 k, .bool true]) ∧ Below w.heap.size w w')
    (S3 : ∀ w, Calls Tryd.prog 8 #[.int .i64 (m * n)] w fun e w' => e = .returned (.tuple #[.int .i64 k, .bool true]) ∧ w = w')
    (D : ∀ w, Calls Tryd.prog 18 #[.int .i64 k, .int .i64 y] w fun e w' => e = .returned (.tuple #[.int .i64 x, .bool true]) ∧ Below w.heap.size w w')
    (w : World) (h : Tabs w) :
    Calls Tryd.prog 5 #[.int .i64 m, .int .i64 n] w fun e w' => e = .returned (.bool true) ∧ Below w.heap.size w w' := by
  have HE := Lib.hid (example_any w h)
  clear h
  have HA := Lib.hid A; clear A
  have HA2 := Lib.hid A2; clear A2
  have HS := Lib.hid S; clear S
  have HS2 := Lib.hid S2; clear S2
  have HT := Lib.hid T; clear T
  have HL := Lib.hid L; clear L
  have HL2 := Lib.hid L2; clear L2
  have HS3 := Lib.hid S3; clear S3
  have HD := Lib.hid D; clear D
  clear hx hy
  have en : (n == 0) = false := by simp; omega
  clear hn
  go_enter Tryd.func5, Tryd.ntmps5
  go_wp2_with fail
  refine HE.out.mono ?_
  rintro e w1 ⟨rfl, hb1⟩
  go_wp2_with fail
  (with_reducible refine (HA.out _).mono ?_)
  rintro e v ⟨rfl, rfl⟩
  go_wp2_with fail
  (with_reducible refine (HA2.out _).mono ?_)
  rintro e v ⟨rfl, rfl⟩
  go_wp2_with fail
  (with_reducible refine (HS.out _).mono ?_)
  rintro e v ⟨rfl, rfl⟩
  go_wp2_with fail
  (with_reducible refine (HS2.out _).mono ?_)
  rintro e v ⟨rfl, rfl⟩
  go_wp2_with fail
  (with_reducible refine (HT.out _).mono ?_)
  rintro e v ⟨rfl, rfl⟩
  go_wp2_with fail
  (with_reducible refine (HL.out _).mono ?_)
  rintro e w2 ⟨rfl, hb2⟩
  go_wp2_with fail
  refine (is_same _ _ _).mono ?_
  rintro e v ⟨rfl, rfl⟩
  go_wp2_with fail
  (with_reducible refine (HL2.out _).mono ?_)
  rintro e w3 ⟨rfl, hb3⟩
  go_wp2_with fail
  (with_reducible refine (HS3.out _).mono ?_)
  rintro e v ⟨rfl, rfl⟩
  go_wp2_with fail
  (with_reducible refine (HD.out _).mono ?_)
  rintro e w4 ⟨rfl, hb4⟩
  go_wp2_with fail
  refine (is_same _ _ _).mono ?_
  rintro e v ⟨rfl, rfl⟩
  go_wp2_with fail
  go_ret
  have z1 := hb1.size
  have z2 := hb2.size
  have z3 := hb3.size
  have z4 := hb4.size
  exact ⟨rfl, (((hb1).trans (hb2.mono (by omega))).trans (hb3.mono (by omega))).trans (hb4.mono (by omega))⟩

set_option maxHeartbeats 8000000 in
set_option maxRecDepth 100000 in
theorem whole_10 (m n x y sx bx k dx : Int) (sb dp : Bool) (m1 : -1152921504606 ≤ m) (m2 : m ≤ 1152921504606) (n1 : -1152921504606 ≤ n) (n2 : n ≤ 1152921504606) (hx : x = m * 1000000) (hy : y = n * 1000000)
    (A : ∀ w, Calls Tryd.prog 8 #[.int .i64 m] w fun e w' => e = .returned (.tuple #[.int .i64 x, .bool true]) ∧ w = w')
    (A2 : ∀ w, Calls Tryd.prog 8 #[.int .i64 n] w fun e w' => e = .returned (.tuple #[.int .i64 y, .bool true]) ∧ w = w')
    (S : ∀ w, Calls Tryd.prog 13 #[.int .i64 x, .int .i64 y] w fun e w' => e = .returned (.tuple #[.int .i64 sx, .bool true]) ∧ w = w')
    (S2 : ∀ w, Calls Tryd.prog 8 #[.int .i64 (m + n)] w fun e w' => e = .returned (.tuple #[.int .i64 sx, .bool true]) ∧ w = w')
    (T : ∀ w, Calls Tryd.prog 11 #[.int .i64 x] w fun e w' => e = .returned (.int .i64 m) ∧ w = w')
    (L : ∀ w, Calls Tryd.prog 17 #[.int .i64 x, .int .i64 1000000] w fun e w' => e = .returned (.tuple #[.int .i64 x, .bool true]) ∧ Below w.heap.size w w')
    (L2 : ∀ w, Calls Tryd.prog 17 #[.int .i64 x, .int .i64 y] w fun e w' => e = .returned (.tuple #[.int .i64 k, .bool false]) ∧ Below w.heap.size w w')
    (w : World) (h : Tabs w) :
    Calls Tryd.prog 5 #[.int .i64 m, .int .i64 n] w fun e w' => e = .returned (.bool true) ∧ Below w.heap.size w w' := by
  have HE := Lib.hid (example_any w h)
  clear h
  have HA := Lib.hid A; clear A
  have HA2 := Lib.hid A2; clear A2
  have HS := Lib.hid S; clear S
  have HS2 := Lib.hid S2; clear S2
  have HT := Lib.hid T; clear T
  have HL := Lib.hid L; clear L
  have HL2 := Lib.hid L2; clear L2
  clear hx hy
  go_enter Tryd.func5, Tryd.ntmps5
  go_wp2_with fail
  refine HE.out.mono ?_
  rintro e w1 ⟨rfl, hb1⟩
  go_wp2_with fail
  (with_reducible refine (HA.out _).mono ?_)
  rintro e v ⟨rfl, rfl⟩
  go_wp2_with fail
  (with_reducible refine (HA2.out _).mono ?_)
  rintro e v ⟨rfl, rfl⟩
  go_wp2_with fail
  (with_reducible refine (HS.out _).mono ?_)
  rintro e v ⟨rfl, rfl⟩
  go_wp2_with fail
  (with_reducible refine (HS2.out _).mono ?_)
  rintro e v ⟨rfl, rfl⟩
  go_wp2_with fail
  (with_reducible refine (HT.out _).mono ?_)
  rintro e v ⟨rfl, rfl⟩
  go_wp2_with fail
  (with_reducible refine (HL.out _).mono ?_)
  rintro e w2 ⟨rfl, hb2⟩
  go_wp2_with fail
  refine (is_same _ _ _).mono ?_
  rintro e v ⟨rfl, rfl⟩
  go_wp2_with fail
  (with_reducible refine (HL2.out _).mono ?_)
  rintro e w3 ⟨rfl, hb3⟩
  go_wp2_with fail
  go_ret
  have z1 := hb1.size
  have z2 := hb2.size
  have z3 := hb3.size
  exact ⟨rfl, ((hb1).trans (hb2.mono (by omega))).trans (hb3.mono (by omega))⟩

set_option maxHeartbeats 8000000 in
set_option maxRecDepth 100000 in
theorem whole_11z (m n x y sx bx k dx : Int) (sb dp : Bool) (m1 : -1152921504606 ≤ m) (m2 : m ≤ 1152921504606) (n1 : -1152921504606 ≤ n) (n2 : n ≤ 1152921504606) (hx : x = m * 1000000) (hy : y = n * 1000000) (p1 : -1152921504606 ≤ m * n) (p2 : m * n ≤ 1152921504606) (hn : n = 0)
    (A : ∀ w, Calls Tryd.prog 8 #[.int .i64 m] w fun e w' => e = .returned (.tuple #[.int .i64 x, .bool true]) ∧ w = w')
    (A2 : ∀ w, Calls Tryd.prog 8 #[.int .i64 n] w fun e w' => e = .returned (.tuple #[.int .i64 y, .bool true]) ∧ w = w')
    (S : ∀ w, Calls Tryd.prog 13 #[.int .i64 x, .int .i64 y] w fun e w' => e = .returned (.tuple #[.int .i64 sx, .bool true]) ∧ w = w')
    (S2 : ∀ w, Calls Tryd.prog 8 #[.int .i64 (m + n)] w fun e w' => e = .returned (.tuple #[.int .i64 sx, .bool true]) ∧ w = w')
    (T : ∀ w, Calls Tryd.prog 11 #[.int .i64 x] w fun e w' => e = .returned (.int .i64 m) ∧ w = w')
    (L : ∀ w, Calls Tryd.prog 17 #[.int .i64 x, .int .i64 1000000] w fun e w' => e = .returned (.tuple #[.int .i64 x, .bool true]) ∧ Below w.heap.size w w')
    (L2 : ∀ w, Calls Tryd.prog 17 #[.int .i64 x, .int .i64 y] w fun e w' => e = .returned (.tuple #[.int .i64 k, .bool true]) ∧ Below w.heap.size w w')
    (S3 : ∀ w, Calls Tryd.prog 8 #[.int .i64 (m * n)] w fun e w' => e = .returned (.tuple #[.int .i64 k, .bool true]) ∧ w = w')
    (D : ∀ w, Calls Tryd.prog 18 #[.int .i64 k, .int .i64 y] w fun e w' => e = .returned (.tuple #[.int .i64 dx, .bool dp]) ∧ Below w.heap.size w w')
    (w : World) (h : Tabs w) :
    Calls Tryd.prog 5 #[.int .i64 m, .int .i64 n] w fun e w' => e = .returned (.bool true) ∧ Below w.heap.size w w' := by
  have HE := Lib.hid (example_any w h)
  clear h
  have HA := Lib.hid A; clear A
  have HA2 := Lib.hid A2; clear A2
  have HS := Lib.hid S; clear S
  have HS2 := Lib.hid S2; clear S2
  have HT := Lib.hid T; clear T
  have HL := Lib.hid L; clear L
  have HL2 := Lib.hid L2; clear L2
  have HS3 := Lib.hid S3; clear S3
  have HD := Lib.hid D; clear D
  clear hx hy
  have en : (n == 0) = true := by simp; omega
  clear hn
  go_enter Tryd.func5, Tryd.ntmps5
  go_wp2_with fail
  refine HE.out.mono ?_
  rintro e w1 ⟨rfl, hb1⟩
  go_wp2_with fail
  (with_reducible refine (HA.out _).mono ?_)
  rintro e v ⟨rfl, rfl⟩
  go_wp2_with fail
  (with_reducible refine (HA2.out _).mono ?_)
  rintro e v ⟨rfl, rfl⟩
  go_wp2_with fail
  (with_reducible refine (HS.out _).mono ?_)
  rintro e v ⟨rfl, rfl⟩
  go_wp2_with fail
  (with_reducible refine (HS2.out _).mono ?_)
  rintro e v ⟨rfl, rfl⟩
  go_wp2_with fail
  (with_reducible refine (HT.out _).mono ?_)
  rintro e v ⟨rfl, rfl⟩
  go_wp2_with fail
  (with_reducible refine (HL.out _).mono ?_)
  rintro e w2 ⟨rfl, hb2⟩
  go_wp2_with fail
  refine (is_same _ _ _).mono ?_
  rintro e v ⟨rfl, rfl⟩
  go_wp2_with fail
  (with_reducible refine (HL2.out _).mono ?_)
  rintro e w3 ⟨rfl, hb3⟩
  go_wp2_with fail
  (with_reducible refine (HS3.out _).mono ?_)
  rintro e v ⟨rfl, rfl⟩
  go_wp2_with fail
  (with_reducible refine (HD.out _).mono ?_)
  rintro e w4 ⟨rfl, hb4⟩
  go_wp2_with fail
  go_ret
  have z1 := hb1.size
  have z2 := hb2.size
  have z3 := hb3.size
  have z4 := hb4.size
  exact ⟨rfl, (((hb1).trans (hb2.mono (by omega))).trans (hb3.mono (by omega))).trans (hb4.mono (by omega))⟩

set_option maxHeartbeats 8000000 in
set_option maxRecDepth 100000 in
theorem whole_11n (m n x y sx bx k dx : Int) (sb dp : Bool) (m1 : -1152921504606 ≤ m) (m2 : m ≤ 1152921504606) (n1 : -1152921504606 ≤ n) (n2 : n ≤ 1152921504606) (hx : x = m * 1000000) (hy : y = n * 1000000) (p1 : -1152921504606 ≤ m * n) (p2 : m * n ≤ 1152921504606) (hn : n ≠ 0)
    (A : ∀ w, Calls Tryd.prog 8 #[.int .i64 m] w fun e w' => e = .returned (.tuple #[.int .i64 x, .bool true]) ∧ w = w')
    (A2 : ∀ w, Calls Tryd.prog 8 #[.int .i64 n] w fun e w' => e = .returned (.tuple #[.int .i64 y, .bool true]) ∧ w = w')
    (S : ∀ w, Calls Tryd.prog 13 #[.int .i64 x, .int .i64 y] w fun e w' => e = .returned (.tuple #[.int .i64 sx, .bool true]) ∧ w = w')
    (S2 : ∀ w, Calls Tryd.prog 8 #[.int .i64 (m + n)] w fun e w' => e = .returned (.tuple #[.int .i64 sx, .bool true]) ∧ w = w')
    (T : ∀ w, Calls Tryd.prog 11 #[.int .i64 x] w fun e w' => e = .returned (.int .i64 m) ∧ w = w')
    (L : ∀ w, Calls Tryd.prog 17 #[.int .i64 x, .int .i64 1000000] w fun e w' => e = .returned (.tuple #[.int .i64 x, .bool true]) ∧ Below w.heap.size w w')
    (L2 : ∀ w, Calls Tryd.prog 17 #[.int .i64 x, .int .i64 y] w fun e w' => e = .returned (.tuple #[.int .i64 k, .bool true]) ∧ Below w.heap.size w w')
    (S3 : ∀ w, Calls Tryd.prog 8 #[.int .i64 (m * n)] w fun e w' => e = .returned (.tuple #[.int .i64 k, .bool true]) ∧ w = w')
    (D : ∀ w, Calls Tryd.prog 18 #[.int .i64 k, .int .i64 y] w fun e w' => e = .returned (.tuple #[.int .i64 x, .bool true]) ∧ Below w.heap.size w w')
    (w : World) (h : Tabs w) :
    Calls Tryd.prog 5 #[.int .i64 m, .int .i64 n] w fun e w' => e = .returned (.bool true) ∧ Below w.heap.size w w' := by
  have HE := Lib.hid (example_any w h)
  clear h
  have HA := Lib.hid A; clear A
  have HA2 := Lib.hid A2; clear A2
  have HS := Lib.hid S; clear S
  have HS2 := Lib.hid S2; clear S2
  have HT := Lib.hid T; clear T
  have HL := Lib.hid L; clear L
  have HL2 := Lib.hid L2; clear L2
  have HS3 := Lib.hid S3; clear S3
  have HD := Lib.hid D; clear D
  clear hx hy
  have en : (n == 0) = false := by simp; omega
  clear hn
  go_enter Tryd.func5, Tryd.ntmps5
  go_wp2_with fail
  refine HE.out.mono ?_
  rintro e w1 ⟨rfl, hb1⟩
  go_wp2_with fail
  (with_reducible refine (HA.out _).mono ?_)
  rintro e v ⟨rfl, rfl⟩
  go_wp2_with fail
  (with_reducible refine (HA2.out _).mono ?_)
  rintro e v ⟨rfl, rfl⟩
  go_wp2_with fail
  (with_reducible refine (HS.out _).mono ?_)
  rintro e v ⟨rfl, rfl⟩
  go_wp2_with fail
  (with_reducible refine (HS2.out _).mono ?_)
  rintro e v ⟨rfl, rfl⟩
  go_wp2_with fail
  (with_reducible refine (HT.out _).mono ?_)
  rintro e v ⟨rfl, rfl⟩
  go_wp2_with fail
  (with_reducible refine (HL.out _).mono ?_)
  rintro e w2 ⟨rfl, hb2⟩
  go_wp2_with fail
  refine (is_same _ _ _).mono ?_
  rintro e v ⟨rfl, rfl⟩
  go_wp2_with fail
  (with_reducible refine (HL2.out _).mono ?_)
  rintro e w3 ⟨rfl, hb3⟩
  go_wp2_with fail
  (with_reducible refine (HS3.out _).mono ?_)
  rintro e v ⟨rfl, rfl⟩
  go_wp2_with fail
  (with_reducible refine (HD.out _).mono ?_)
  rintro e w4 ⟨rfl, hb4⟩
  go_wp2_with fail
  refine (is_same _ _ _).mono ?_
  rintro e v ⟨rfl, rfl⟩
  go_wp2_with fail
  go_ret
  have z1 := hb1.size
  have z2 := hb2.size
  have z3 := hb3.size
  have z4 := hb4.size
  exact ⟨rfl, (((hb1).trans (hb2.mono (by omega))).trans (hb3.mono (by omega))).trans (hb4.mono (by omega))⟩

theorem whole_walk (m n : Int) (m1 : -9223372036854775808 ≤ m) (m2 : m ≤ 9223372036854775807) (n1 : -9223372036854775808 ≤ n) (n2 : n ≤ 9223372036854775807) (w : World) (h : Tabs w) :
    Calls Tryd.prog 5 #[.int .i64 m, .int .i64 n] w fun e w' => e = .returned (.bool true) ∧ Below w.heap.size w w' := by
  have A := fun w => from_any m w m1 m2
  have A2 := fun w => from_any n w n1 n2
  by_cases hm : -1152921504606 ≤ m ∧ m ≤ 1152921504606
  · rw [fromR_in m hm.1 hm.2] at A
    by_cases hn : -1152921504606 ≤ n ∧ n ≤ 1152921504606
    · rw [fromR_in n hn.1 hn.2] at A2
      obtain ⟨c1, c2⟩ := hm
      obtain ⟨d1, d2⟩ := hn
      obtain ⟨x, hx⟩ : ∃ x, x = m * 1000000 := ⟨_, rfl⟩
      obtain ⟨y, hy⟩ : ∃ y, y = n * 1000000 := ⟨_, rfl⟩
      have S := fun w => add_any (m * 1000000) (n * 1000000) w (by omega) (by omega) (by omega) (by omega)
      have S2 := fun w => from_any (m + n) w (by omega) (by omega)
      have T := fun w => toInt_any (m * 1000000) w (by omega) (by omega)
      rw [toR_from] at T
      have L := fun w => mulD_any (m * 1000000) 1000000 w (by omega) (by omega) (by decide) (by decide)
      rw [mulR_micro m c1 c2] at L
      have L2 := fun w => mulD_any (m * 1000000) (n * 1000000) w (by omega) (by omega) (by omega) (by omega)
      rw [mulR_whole m n c1 c2 d1 d2] at L2
      by_cases hu : 1152921504606846976 < absI (m * n * 1000000)
      · rw [if_pos hu] at L2
        by_cases hr : fit (m * 1000000 + n * 1000000) = true
        · obtain ⟨r1, r2⟩ := fit_yes hr
          rw [show addR (m * 1000000) (n * 1000000) = ((m + n) * 1000000, true) by unfold addR; rw [if_pos ⟨fit_of (by omega) (by omega), fit_of (by omega) (by omega), hr⟩, show m * 1000000 + n * 1000000 = (m + n) * 1000000 by omega]] at S
          rw [fromR_in (m + n) (by omega) (by omega)] at S2
          rw [← hx] at A S T L L2
          rw [← hy] at A2 S L2
          exact whole_10 m n x y ((m + n) * 1000000) 0 0 0 false false c1 c2 d1 d2 hx hy A A2 S S2 T L L2 w h
        · rw [show addR (m * 1000000) (n * 1000000) = (0, false) by unfold addR; rw [if_neg (fun k => hr k.2.2)]] at S
          rw [← hx] at A S T L L2
          rw [← hy] at A2 S L2
          exact whole_00 m n x y 0 (fromR (m + n)).1 0 0 (fromR (m + n)).2 false c1 c2 d1 d2 hx hy A A2 S S2 T L L2 w h
      · rw [if_neg hu] at L2
        have p1 : -1152921504606 ≤ m * n := by unfold absI at hu; split at hu <;> omega
        have p2 : m * n ≤ 1152921504606 := by unfold absI at hu; split at hu <;> omega
        have S3 := fun w => from_any (m * n) w (by omega) (by omega)
        rw [fromR_in (m * n) p1 p2] at S3
        have D := fun w => divD_any (m * n * 1000000) (n * 1000000) w (by omega) (by omega) (by omega) (by omega)
        by_cases hz : n = 0
        · by_cases hr : fit (m * 1000000 + n * 1000000) = true
          · obtain ⟨r1, r2⟩ := fit_yes hr
            rw [show addR (m * 1000000) (n * 1000000) = ((m + n) * 1000000, true) by unfold addR; rw [if_pos ⟨fit_of (by omega) (by omega), fit_of (by omega) (by omega), hr⟩, show m * 1000000 + n * 1000000 = (m + n) * 1000000 by omega]] at S
            rw [fromR_in (m + n) (by omega) (by omega)] at S2
            rw [← hx] at A S T L L2
            rw [← hy] at A2 S L2 D
            exact whole_11z m n x y ((m + n) * 1000000) 0 (m * n * 1000000) (divR (m * n * 1000000) y).1 false (divR (m * n * 1000000) y).2 c1 c2 d1 d2 hx hy p1 p2 hz A A2 S S2 T L L2 S3 D w h
          · rw [show addR (m * 1000000) (n * 1000000) = (0, false) by unfold addR; rw [if_neg (fun k => hr k.2.2)]] at S
            rw [← hx] at A S T L L2
            rw [← hy] at A2 S L2 D
            exact whole_01z m n x y 0 (fromR (m + n)).1 (m * n * 1000000) (divR (m * n * 1000000) y).1 (fromR (m + n)).2 (divR (m * n * 1000000) y).2 c1 c2 d1 d2 hx hy p1 p2 hz A A2 S S2 T L L2 S3 D w h
        · rw [divR_whole m n c1 c2 d1 d2 p1 p2 hz] at D
          by_cases hr : fit (m * 1000000 + n * 1000000) = true
          · obtain ⟨r1, r2⟩ := fit_yes hr
            rw [show addR (m * 1000000) (n * 1000000) = ((m + n) * 1000000, true) by unfold addR; rw [if_pos ⟨fit_of (by omega) (by omega), fit_of (by omega) (by omega), hr⟩, show m * 1000000 + n * 1000000 = (m + n) * 1000000 by omega]] at S
            rw [fromR_in (m + n) (by omega) (by omega)] at S2
            rw [← hx] at A S T L L2 D
            rw [← hy] at A2 S L2 D
            exact whole_11n m n x y ((m + n) * 1000000) 0 (m * n * 1000000) 0 false false c1 c2 d1 d2 hx hy p1 p2 hz A A2 S S2 T L L2 S3 D w h
          · rw [show addR (m * 1000000) (n * 1000000) = (0, false) by unfold addR; rw [if_neg (fun k => hr k.2.2)]] at S
            rw [← hx] at A S T L L2 D
            rw [← hy] at A2 S L2 D
            exact whole_01n m n x y 0 (fromR (m + n)).1 (m * n * 1000000) 0 (fromR (m + n)).2 false c1 c2 d1 d2 hx hy p1 p2 hz A A2 S S2 T L L2 S3 D w h
    · rw [fromR_out n hn] at A2
      exact whole_half m n _ 0 m1 m2 n1 n2 A A2 w h
  · rw [fromR_out m hm] at A
    exact whole_no m n 0 (fromR n).1 (fromR n).2 m1 m2 n1 n2 A A2 w h
end Go.Proofs.YtiahadohgfahcaaDoor
