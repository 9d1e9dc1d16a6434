import Derived.Test.YtiahadohgfahcaaDoorB
namespace Go.Proofs.YtiahadohgfahcaaDoor
open Go.ChangeShapes Go.WideShapes Go.ChangeAt Go.RowKit
set_option linter.unusedVariables false

set_option maxHeartbeats 2000000 in
theorem scaled_even_big (x y z hi lo q r : Int) (s1 s2 s3 : Bool) (a b d : Int) (x0 : 0 ≤ x) (x1 : x ≤ 1152921504606846976) (y0 : 0 ≤ y) (y1 : y ≤ 1152921504606846976) (z0 : 1 ≤ z) (z1 : z ≤ 1152921504606846976)
    (hi0 : 0 ≤ hi) (hi1 : hi ≤ 18446744073709551615) (lo0 : 0 ≤ lo) (lo1 : lo ≤ 18446744073709551615)
    (MA : ∀ w, Calls Tryd.prog 30 #[.int .i64 a] w fun e w' => e = .returned (.tuple #[.int .u64 x, .bool s1]) ∧ w = w')
    (MB : ∀ w, Calls Tryd.prog 30 #[.int .i64 b] w fun e w' => e = .returned (.tuple #[.int .u64 y, .bool s2]) ∧ w = w')
    (MD : ∀ w, Calls Tryd.prog 30 #[.int .i64 d] w fun e w' => e = .returned (.tuple #[.int .u64 z, .bool s3]) ∧ w = w')
    (MU : ∀ w, Calls Tryd.prog 31 #[.int .u64 x, .int .u64 y] w fun e w' => e = .returned (.tuple #[.int .u64 hi, .int .u64 lo]) ∧ w = w')
    (hlt : hi < z) (q0 : 0 ≤ q) (q1 : q ≤ 18446744073709551615) (r0 : 0 ≤ r) (r1 : r < z)
    (DV : ∀ w, Calls Tryd.prog 32 #[.int .u64 hi, .int .u64 lo, .int .u64 z] w fun e w' => e = .returned (.tuple #[.int .u64 q, .int .u64 r]) ∧ Below w.heap.size w w')
    (g1 : 2 * r = z) (g3 : ¬ q % 2 = 1) (hq : 1152921504606846976 < q) (w : World) :
    Calls Tryd.prog 25 #[.int .i64 a, .int .i64 b, .int .i64 d] w fun e w' => e = .returned (.tuple #[.int .i64 0, .bool false]) ∧ Below w.heap.size w w' := by
  have k1 : ¬ z < 2 * r := by omega
  have k2 : (2 * r == z) = true := by simp; omega
  have k3 : (bits .and .u64 q 1 == 1) = false := by rw [and1 q (by omega) (by omega)]; simp; omega
  clear g1 g3
  have MA' := Lib.hid MA; clear MA
  have MB' := Lib.hid MB; clear MB
  have MD' := Lib.hid MD; clear MD
  have MU' := Lib.hid MU; clear MU
  have DV' := Lib.hid DV; clear DV
  have hlt' : ¬ z ≤ hi := by omega
  go_enter Tryd.func25, Tryd.ntmps25
  go_wp2_with fail
  refine (MA'.out _).mono ?_
  rintro e w1 ⟨rfl, rfl⟩
  go_wp2_with fail
  refine (MB'.out _).mono ?_
  rintro e w1 ⟨rfl, rfl⟩
  go_wp2_with fail
  refine (MD'.out _).mono ?_
  rintro e w1 ⟨rfl, rfl⟩
  go_wp2_with fail
  refine (MU'.out _).mono ?_
  rintro e w1 ⟨rfl, rfl⟩
  go_wp2_with fail
  refine (DV'.out _).mono ?_
  rintro e w4 ⟨rfl, hb4⟩
  go_wp2_with fail
  go_ret2
  exact ⟨rfl, hb4⟩

set_option maxHeartbeats 2000000 in
theorem scaled_even_fits (x y z hi lo q r : Int) (s1 s2 s3 : Bool) (a b d : Int) (x0 : 0 ≤ x) (x1 : x ≤ 1152921504606846976) (y0 : 0 ≤ y) (y1 : y ≤ 1152921504606846976) (z0 : 1 ≤ z) (z1 : z ≤ 1152921504606846976)
    (hi0 : 0 ≤ hi) (hi1 : hi ≤ 18446744073709551615) (lo0 : 0 ≤ lo) (lo1 : lo ≤ 18446744073709551615)
    (MA : ∀ w, Calls Tryd.prog 30 #[.int .i64 a] w fun e w' => e = .returned (.tuple #[.int .u64 x, .bool s1]) ∧ w = w')
    (MB : ∀ w, Calls Tryd.prog 30 #[.int .i64 b] w fun e w' => e = .returned (.tuple #[.int .u64 y, .bool s2]) ∧ w = w')
    (MD : ∀ w, Calls Tryd.prog 30 #[.int .i64 d] w fun e w' => e = .returned (.tuple #[.int .u64 z, .bool s3]) ∧ w = w')
    (MU : ∀ w, Calls Tryd.prog 31 #[.int .u64 x, .int .u64 y] w fun e w' => e = .returned (.tuple #[.int .u64 hi, .int .u64 lo]) ∧ w = w')
    (hlt : hi < z) (q0 : 0 ≤ q) (q1 : q ≤ 18446744073709551615) (r0 : 0 ≤ r) (r1 : r < z)
    (DV : ∀ w, Calls Tryd.prog 32 #[.int .u64 hi, .int .u64 lo, .int .u64 z] w fun e w' => e = .returned (.tuple #[.int .u64 q, .int .u64 r]) ∧ Below w.heap.size w w')
    (g1 : 2 * r = z) (g3 : ¬ q % 2 = 1) (hq : ¬ 1152921504606846976 < q) (w : World) :
    Calls Tryd.prog 25 #[.int .i64 a, .int .i64 b, .int .i64 d] w fun e w' => e = .returned (.tuple #[.int .i64 (if (s1 != s2) != s3 then -(q) else q), .bool true]) ∧ Below w.heap.size w w' := by
  have k1 : ¬ z < 2 * r := by omega
  have k2 : (2 * r == z) = true := by simp; omega
  have k3 : (bits .and .u64 q 1 == 1) = false := by rw [and1 q (by omega) (by omega)]; simp; omega
  clear g1 g3
  have MA' := Lib.hid MA; clear MA
  have MB' := Lib.hid MB; clear MB
  have MD' := Lib.hid MD; clear MD
  have MU' := Lib.hid MU; clear MU
  have DV' := Lib.hid DV; clear DV
  have hlt' : ¬ z ≤ hi := by omega
  cases s1 <;> cases s2 <;> cases s3
  all_goals
    go_enter Tryd.func25, Tryd.ntmps25
    go_wp2_with fail
    refine (MA'.out _).mono ?_
    rintro e w1 ⟨rfl, rfl⟩
    go_wp2_with fail
    refine (MB'.out _).mono ?_
    rintro e w1 ⟨rfl, rfl⟩
    go_wp2_with fail
    refine (MD'.out _).mono ?_
    rintro e w1 ⟨rfl, rfl⟩
    go_wp2_with fail
    refine (MU'.out _).mono ?_
    rintro e w1 ⟨rfl, rfl⟩
    go_wp2_with fail
    refine (DV'.out _).mono ?_
    rintro e w4 ⟨rfl, hb4⟩
    go_wp2_with fail
    go_ret2
    refine ⟨?_, hb4⟩
    first
    | rfl
    | (simp only [kw, kv, kx]; rfl)
    | (simp [kw, kv, kx, wrap64])

set_option maxHeartbeats 2000000 in
theorem scaled_lt_big (x y z hi lo q r : Int) (s1 s2 s3 : Bool) (a b d : Int) (x0 : 0 ≤ x) (x1 : x ≤ 1152921504606846976) (y0 : 0 ≤ y) (y1 : y ≤ 1152921504606846976) (z0 : 1 ≤ z) (z1 : z ≤ 1152921504606846976)
    (hi0 : 0 ≤ hi) (hi1 : hi ≤ 18446744073709551615) (lo0 : 0 ≤ lo) (lo1 : lo ≤ 18446744073709551615)
    (MA : ∀ w, Calls Tryd.prog 30 #[.int .i64 a] w fun e w' => e = .returned (.tuple #[.int .u64 x, .bool s1]) ∧ w = w')
    (MB : ∀ w, Calls Tryd.prog 30 #[.int .i64 b] w fun e w' => e = .returned (.tuple #[.int .u64 y, .bool s2]) ∧ w = w')
    (MD : ∀ w, Calls Tryd.prog 30 #[.int .i64 d] w fun e w' => e = .returned (.tuple #[.int .u64 z, .bool s3]) ∧ w = w')
    (MU : ∀ w, Calls Tryd.prog 31 #[.int .u64 x, .int .u64 y] w fun e w' => e = .returned (.tuple #[.int .u64 hi, .int .u64 lo]) ∧ w = w')
    (hlt : hi < z) (q0 : 0 ≤ q) (q1 : q ≤ 18446744073709551615) (r0 : 0 ≤ r) (r1 : r < z)
    (DV : ∀ w, Calls Tryd.prog 32 #[.int .u64 hi, .int .u64 lo, .int .u64 z] w fun e w' => e = .returned (.tuple #[.int .u64 q, .int .u64 r]) ∧ Below w.heap.size w w')
    (g1 : 2 * r < z) (hq : 1152921504606846976 < q) (w : World) :
    Calls Tryd.prog 25 #[.int .i64 a, .int .i64 b, .int .i64 d] w fun e w' => e = .returned (.tuple #[.int .i64 0, .bool false]) ∧ Below w.heap.size w w' := by
  have k1 : ¬ z < 2 * r := by omega
  have k2 : (2 * r == z) = false := by simp; omega
  have MA' := Lib.hid MA; clear MA
  have MB' := Lib.hid MB; clear MB
  have MD' := Lib.hid MD; clear MD
  have MU' := Lib.hid MU; clear MU
  have DV' := Lib.hid DV; clear DV
  have hlt' : ¬ z ≤ hi := by omega
  go_enter Tryd.func25, Tryd.ntmps25
  go_wp2_with fail
  refine (MA'.out _).mono ?_
  rintro e w1 ⟨rfl, rfl⟩
  go_wp2_with fail
  refine (MB'.out _).mono ?_
  rintro e w1 ⟨rfl, rfl⟩
  go_wp2_with fail
  refine (MD'.out _).mono ?_
  rintro e w1 ⟨rfl, rfl⟩
  go_wp2_with fail
  refine (MU'.out _).mono ?_
  rintro e w1 ⟨rfl, rfl⟩
  go_wp2_with fail
  refine (DV'.out _).mono ?_
  rintro e w4 ⟨rfl, hb4⟩
  go_wp2_with fail
  go_ret2
  exact ⟨rfl, hb4⟩

set_option maxHeartbeats 2000000 in
theorem scaled_lt_fits (x y z hi lo q r : Int) (s1 s2 s3 : Bool) (a b d : Int) (x0 : 0 ≤ x) (x1 : x ≤ 1152921504606846976) (y0 : 0 ≤ y) (y1 : y ≤ 1152921504606846976) (z0 : 1 ≤ z) (z1 : z ≤ 1152921504606846976)
    (hi0 : 0 ≤ hi) (hi1 : hi ≤ 18446744073709551615) (lo0 : 0 ≤ lo) (lo1 : lo ≤ 18446744073709551615)
    (MA : ∀ w, Calls Tryd.prog 30 #[.int .i64 a] w fun e w' => e = .returned (.tuple #[.int .u64 x, .bool s1]) ∧ w = w')
    (MB : ∀ w, Calls Tryd.prog 30 #[.int .i64 b] w fun e w' => e = .returned (.tuple #[.int .u64 y, .bool s2]) ∧ w = w')
    (MD : ∀ w, Calls Tryd.prog 30 #[.int .i64 d] w fun e w' => e = .returned (.tuple #[.int .u64 z, .bool s3]) ∧ w = w')
    (MU : ∀ w, Calls Tryd.prog 31 #[.int .u64 x, .int .u64 y] w fun e w' => e = .returned (.tuple #[.int .u64 hi, .int .u64 lo]) ∧ w = w')
    (hlt : hi < z) (q0 : 0 ≤ q) (q1 : q ≤ 18446744073709551615) (r0 : 0 ≤ r) (r1 : r < z)
    (DV : ∀ w, Calls Tryd.prog 32 #[.int .u64 hi, .int .u64 lo, .int .u64 z] w fun e w' => e = .returned (.tuple #[.int .u64 q, .int .u64 r]) ∧ Below w.heap.size w w')
    (g1 : 2 * r < z) (hq : ¬ 1152921504606846976 < q) (w : World) :
    Calls Tryd.prog 25 #[.int .i64 a, .int .i64 b, .int .i64 d] w fun e w' => e = .returned (.tuple #[.int .i64 (if (s1 != s2) != s3 then -(q) else q), .bool true]) ∧ Below w.heap.size w w' := by
  have k1 : ¬ z < 2 * r := by omega
  have k2 : (2 * r == z) = false := by simp; omega
  have MA' := Lib.hid MA; clear MA
  have MB' := Lib.hid MB; clear MB
  have MD' := Lib.hid MD; clear MD
  have MU' := Lib.hid MU; clear MU
  have DV' := Lib.hid DV; clear DV
  have hlt' : ¬ z ≤ hi := by omega
  cases s1 <;> cases s2 <;> cases s3
  all_goals
    go_enter Tryd.func25, Tryd.ntmps25
    go_wp2_with fail
    refine (MA'.out _).mono ?_
    rintro e w1 ⟨rfl, rfl⟩
    go_wp2_with fail
    refine (MB'.out _).mono ?_
    rintro e w1 ⟨rfl, rfl⟩
    go_wp2_with fail
    refine (MD'.out _).mono ?_
    rintro e w1 ⟨rfl, rfl⟩
    go_wp2_with fail
    refine (MU'.out _).mono ?_
    rintro e w1 ⟨rfl, rfl⟩
    go_wp2_with fail
    refine (DV'.out _).mono ?_
    rintro e w4 ⟨rfl, hb4⟩
    go_wp2_with fail
    go_ret2
    refine ⟨?_, hb4⟩
    first
    | rfl
    | (simp only [kw, kv, kx]; rfl)
    | (simp [kw, kv, kx, wrap64])

end Go.Proofs.YtiahadohgfahcaaDoor
