import Derived.Test.YtjjibddpgjoeeaaA
import Derived.Deep.QuietTactic
import Derived.BigQuiet
import Derived.Outline
namespace Go.Proofs.Ytjjibddpgjoeeaa
open Go.ChangeShapes Go.WideShapes Go.ChangeAt Go.RowKit
set_option linter.unusedVariables false

theorem below_drewN {B : Nat} {a w : World} (h : Below B a w) (n : Nat) : Below B a (w.drewN n) := ⟨h.os, h.tape, h.output, h.size, h.block⟩
/-- Div64 where the higher half is 0. -/
theorem div64_small (lo y : Int) (h1 : 0 ≤ lo) (h2 : lo ≤ 18446744073709551615) (h3 : 1 ≤ y) (h4 : y ≤ 18446744073709551615) (w : World) :
    Calls Try.prog 36 #[.int .u64 0, .int .u64 lo, .int .u64 y] w fun e w' => e = .returned (.tuple #[.int .u64 (lo / y), .int .u64 (lo % y)]) ∧ Below w.heap.size w w' := by
  have e1 : (y == 0) = false := by simp; omega
  have e2 : ¬ y ≤ 0 := by omega
  go_enter Try.func36, Try.ntmps36
  go_wp2
  go_quiet (fail)
  go_wp2
  go_ret2
  exact ⟨rfl, below_drewN (Below.refl _ _) _⟩

/-- What Divide does once the absolute values are known: y is not above the higher half. -/
theorem divide_great (a d hi lo y z : Int) (b1 : 0 ≤ hi) (b2 : hi ≤ 18446744073709551615) (b3 : 0 ≤ y) (b4 : y ≤ 18446744073709551615) (hd : d ≠ 0) (hle : y ≤ hi)
    (S1 : ∀ w, Calls Try.prog 35 #[.agg #[.int .i64 (whi a), .int .u64 (wlo a)]] w fun e w' => e = .returned (.agg #[.int .u64 lo, .int .u64 hi]) ∧ Below w.heap.size w w')
    (O : ∀ w, Calls Try.prog 20 #[.int .i64 d] w fun e w' => e = .returned (.agg #[.int .i64 (whi d), .int .u64 (wlo d)]) ∧ Below w.heap.size w w')
    (S2 : ∀ w, Calls Try.prog 35 #[.agg #[.int .i64 (whi d), .int .u64 (wlo d)]] w fun e w' => e = .returned (.agg #[.int .u64 y, .int .u64 z]) ∧ Below w.heap.size w w') (w : World) :
    Calls Try.prog 18 #[.agg #[.int .i64 (whi a), .int .u64 (wlo a)], .int .i64 d] w fun e w' => e = .returned (.tuple #[.int .i64 0, .bool false]) ∧ Below w.heap.size w w' := by
  have e1 : (d == 0) = false := by simp; omega
  have hix : ∀ w, (Instr.index 51 (.agg #[.int .u64 y, .int .u64 z]) (.int .i64 0)).run Try.prog w = .ok (.int .u64 y) w := fun _ => by kernel_rfl
  have S1' := Lib.hid S1; clear S1
  have S2' := Lib.hid S2; clear S2
  have O' := Lib.hid O; clear O
  go_enter Try.func18, Try.ntmps18
  go_wp2_with fail
  refine (S1'.out _).mono ?_
  rintro e w1 ⟨rfl, hb1⟩
  go_wp2_with fail
  refine (O'.out _).mono ?_
  rintro e w2 ⟨rfl, hb2⟩
  go_wp2_with fail
  refine (S2'.out _).mono ?_
  rintro e w3 ⟨rfl, hb3⟩
  have hz1 := hb1.size; have hz2 := hb2.size; have hz3 := hb3.size
  simp at hz1
  go_wp2_with fail
  go_ret2
  exact ⟨rfl, ((((Below.refl _ _).alloc (Nat.le_refl _) _).trans (hb1.mono (by simp))).trans (hb2.mono (by omega)) |>.trans (hb3.mono (by omega))).alloc (by omega) _⟩

theorem divide_zero (a : Int) (w : World) :
    Calls Try.prog 18 #[.agg #[.int .i64 (whi a), .int .u64 (wlo a)], .int .i64 0] w fun e w' => e = .returned (.tuple #[.int .i64 0, .bool false]) ∧ Below w.heap.size w w' := by
  go_enter Try.func18, Try.ntmps18
  go_wp2_with fail
  go_ret2
  exact ⟨rfl, (Below.refl _ _).alloc (Nat.le_refl _) _⟩

/-- What Divide hands back for a rounded absolute value n and a sign. -/
def divOut (s : Bool) (n : Int) : Value := if 1152921504606846976 < n then .tuple #[.int .i64 0, .bool false] else .tuple #[.int .i64 (if s = true then -n else n), .bool true]
theorem divOut_big (s : Bool) (n : Int) (h : 1152921504606846976 < n) : divOut s n = .tuple #[.int .i64 0, .bool false] := by unfold divOut; rw [if_pos h]
theorem divOut_pos (s : Bool) (n : Int) (h : ¬ 1152921504606846976 < n) (x y : Bool) (hs : s = (x != y)) (k : (!x == y) = false) : divOut s n = .tuple #[.int .i64 n, .bool true] := by
  unfold divOut; rw [if_neg h]; subst hs; cases x <;> cases y <;> simp_all
theorem divOut_neg (s : Bool) (n : Int) (h : ¬ 1152921504606846976 < n) (x y : Bool) (hs : s = (x != y)) (k : (!x == y) = true) : divOut s n = .tuple #[.int .i64 (-n), .bool true] := by
  unfold divOut; rw [if_neg h]; subst hs; cases x <;> cases y <;> simp_all

theorem divide_gt (a d hi lo y z q r : Int) (s : Bool) (b3 : 1 ≤ y) (b4 : y ≤ 9223372036854775808) (q1 : 0 ≤ q) (q2 : q ≤ 18446744073709551615) (r1 : 0 ≤ r) (r2 : r < y) (hd : d ≠ 0) (b1 : 0 ≤ hi) (hlt : hi < y)
    (S1 : ∀ w, Calls Try.prog 35 #[.agg #[.int .i64 (whi a), .int .u64 (wlo a)]] w fun e w' => e = .returned (.agg #[.int .u64 lo, .int .u64 hi]) ∧ Below w.heap.size w w')
    (O : ∀ w, Calls Try.prog 20 #[.int .i64 d] w fun e w' => e = .returned (.agg #[.int .i64 (whi d), .int .u64 (wlo d)]) ∧ Below w.heap.size w w')
    (S2 : ∀ w, Calls Try.prog 35 #[.agg #[.int .i64 (whi d), .int .u64 (wlo d)]] w fun e w' => e = .returned (.agg #[.int .u64 y, .int .u64 z]) ∧ Below w.heap.size w w')
    (D : ∀ w, Calls Try.prog 36 #[.int .u64 hi, .int .u64 lo, .int .u64 y] w fun e w' => e = .returned (.tuple #[.int .u64 q, .int .u64 r]) ∧ Below w.heap.size w w')
    (hs : s = (decide (whi a < 0) != decide (d < 0))) (hgt : y - r < r) (hm : ¬ q = 18446744073709551615) (w : World) :
    Calls Try.prog 18 #[.agg #[.int .i64 (whi a), .int .u64 (wlo a)], .int .i64 d] w fun e w' => e = .returned (divOut s (q + 1)) ∧ Below w.heap.size w w' := by
  have hm' : (q == 18446744073709551615) = false := by simp; omega
  have e1 : (d == 0) = false := by simp; omega
  have hix : ∀ w, (Instr.index 51 (.agg #[.int .u64 y, .int .u64 z]) (.int .i64 0)).run Try.prog w = .ok (.int .u64 y) w := fun _ => by kernel_rfl
  have HS := Lib.hid hs; clear hs
  have S1' := Lib.hid S1; clear S1
  have S2' := Lib.hid S2; clear S2
  have O' := Lib.hid O; clear O
  have D' := Lib.hid D; clear D
  have hlt' : ¬ y ≤ hi := by omega
  go_enter Try.func18, Try.ntmps18
  go_wp2_with fail
  refine (S1'.out _).mono ?_
  rintro e w1 ⟨rfl, hb1⟩
  have hz1 := hb1.size
  simp at hz1
  have ca0 : w1.cell? ⟨w.heap.size, 0, none⟩ = some (.int .i64 (whi a)) := by rw [hb1.cell (by simp)]; simp [go_sem]
  go_wp2_with fail
  refine (O'.out _).mono ?_
  rintro e w2 ⟨rfl, hb2⟩
  have hz2 := hb2.size
  go_wp2_with fail
  refine (S2'.out _).mono ?_
  rintro e w3 ⟨rfl, hb3⟩
  have hz3 := hb3.size
  have ca3 : w3.cell? ⟨w.heap.size, 0, none⟩ = some (.int .i64 (whi a)) := by rw [hb3.cell (by simp; omega), hb2.cell (by simp; omega), ca0]
  clear ca0
  go_wp2_with fail
  refine (D'.out _).mono ?_
  rintro e w4 ⟨rfl, hb4⟩
  have hz4 := hb4.size
  simp at hz4
  have ca4 : w4.cell? ⟨w.heap.size, 0, none⟩ = some (.int .i64 (whi a)) := by
    have hne : w.heap.size < w3.heap.size := by omega
    rw [hb4.cell (by simp; omega)]; simp [go_sem, ca3, hne]
  clear ca3
  go_wp2_with fail
  all_goals
    go_ret2
    refine ⟨?_, ((((((Below.refl _ _).alloc (Nat.le_refl _) _).trans (hb1.mono (by simp))).trans (hb2.mono (by omega))).trans (hb3.mono (by omega))).alloc (by omega) _).trans (hb4.mono (by simp; omega))⟩
    first
    | (rw [divOut_big _ _ (by omega)]; rfl)
    | (rw [divOut_pos _ _ (by omega) _ _ HS.out (by assumption)]; rfl)
    | (rw [divOut_neg _ _ (by omega) _ _ HS.out (by assumption)]; rfl)

theorem divide_gtmax (a d hi lo y z q r : Int) (s : Bool) (b3 : 1 ≤ y) (b4 : y ≤ 9223372036854775808) (q1 : 0 ≤ q) (q2 : q ≤ 18446744073709551615) (r1 : 0 ≤ r) (r2 : r < y) (hd : d ≠ 0) (b1 : 0 ≤ hi) (hlt : hi < y)
    (S1 : ∀ w, Calls Try.prog 35 #[.agg #[.int .i64 (whi a), .int .u64 (wlo a)]] w fun e w' => e = .returned (.agg #[.int .u64 lo, .int .u64 hi]) ∧ Below w.heap.size w w')
    (O : ∀ w, Calls Try.prog 20 #[.int .i64 d] w fun e w' => e = .returned (.agg #[.int .i64 (whi d), .int .u64 (wlo d)]) ∧ Below w.heap.size w w')
    (S2 : ∀ w, Calls Try.prog 35 #[.agg #[.int .i64 (whi d), .int .u64 (wlo d)]] w fun e w' => e = .returned (.agg #[.int .u64 y, .int .u64 z]) ∧ Below w.heap.size w w')
    (D : ∀ w, Calls Try.prog 36 #[.int .u64 hi, .int .u64 lo, .int .u64 y] w fun e w' => e = .returned (.tuple #[.int .u64 q, .int .u64 r]) ∧ Below w.heap.size w w')
    (hs : s = (decide (whi a < 0) != decide (d < 0))) (hgt : y - r < r) (hm : q = 18446744073709551615) (w : World) :
    Calls Try.prog 18 #[.agg #[.int .i64 (whi a), .int .u64 (wlo a)], .int .i64 d] w fun e w' => e = .returned (divOut s (q + 1)) ∧ Below w.heap.size w w' := by
  subst hm
  have e1 : (d == 0) = false := by simp; omega
  have hix : ∀ w, (Instr.index 51 (.agg #[.int .u64 y, .int .u64 z]) (.int .i64 0)).run Try.prog w = .ok (.int .u64 y) w := fun _ => by kernel_rfl
  have HS := Lib.hid hs; clear hs
  have S1' := Lib.hid S1; clear S1
  have S2' := Lib.hid S2; clear S2
  have O' := Lib.hid O; clear O
  have D' := Lib.hid D; clear D
  have hlt' : ¬ y ≤ hi := by omega
  go_enter Try.func18, Try.ntmps18
  go_wp2_with fail
  refine (S1'.out _).mono ?_
  rintro e w1 ⟨rfl, hb1⟩
  have hz1 := hb1.size
  simp at hz1
  have ca0 : w1.cell? ⟨w.heap.size, 0, none⟩ = some (.int .i64 (whi a)) := by rw [hb1.cell (by simp)]; simp [go_sem]
  go_wp2_with fail
  refine (O'.out _).mono ?_
  rintro e w2 ⟨rfl, hb2⟩
  have hz2 := hb2.size
  go_wp2_with fail
  refine (S2'.out _).mono ?_
  rintro e w3 ⟨rfl, hb3⟩
  have hz3 := hb3.size
  have ca3 : w3.cell? ⟨w.heap.size, 0, none⟩ = some (.int .i64 (whi a)) := by rw [hb3.cell (by simp; omega), hb2.cell (by simp; omega), ca0]
  clear ca0
  go_wp2_with fail
  refine (D'.out _).mono ?_
  rintro e w4 ⟨rfl, hb4⟩
  have hz4 := hb4.size
  simp at hz4
  have ca4 : w4.cell? ⟨w.heap.size, 0, none⟩ = some (.int .i64 (whi a)) := by
    have hne : w.heap.size < w3.heap.size := by omega
    rw [hb4.cell (by simp; omega)]; simp [go_sem, ca3, hne]
  clear ca3
  go_wp2_with fail
  all_goals
    go_ret2
    refine ⟨?_, ((((((Below.refl _ _).alloc (Nat.le_refl _) _).trans (hb1.mono (by simp))).trans (hb2.mono (by omega))).trans (hb3.mono (by omega))).alloc (by omega) _).trans (hb4.mono (by simp; omega))⟩
    first
    | (rw [divOut_big _ _ (by omega)]; rfl)
    | (rw [divOut_pos _ _ (by omega) _ _ HS.out (by assumption)]; rfl)
    | (rw [divOut_neg _ _ (by omega) _ _ HS.out (by assumption)]; rfl)

theorem divide_odd (a d hi lo y z q r : Int) (s : Bool) (b3 : 1 ≤ y) (b4 : y ≤ 9223372036854775808) (q1 : 0 ≤ q) (q2 : q ≤ 18446744073709551615) (r1 : 0 ≤ r) (r2 : r < y) (hd : d ≠ 0) (b1 : 0 ≤ hi) (hlt : hi < y)
    (S1 : ∀ w, Calls Try.prog 35 #[.agg #[.int .i64 (whi a), .int .u64 (wlo a)]] w fun e w' => e = .returned (.agg #[.int .u64 lo, .int .u64 hi]) ∧ Below w.heap.size w w')
    (O : ∀ w, Calls Try.prog 20 #[.int .i64 d] w fun e w' => e = .returned (.agg #[.int .i64 (whi d), .int .u64 (wlo d)]) ∧ Below w.heap.size w w')
    (S2 : ∀ w, Calls Try.prog 35 #[.agg #[.int .i64 (whi d), .int .u64 (wlo d)]] w fun e w' => e = .returned (.agg #[.int .u64 y, .int .u64 z]) ∧ Below w.heap.size w w')
    (D : ∀ w, Calls Try.prog 36 #[.int .u64 hi, .int .u64 lo, .int .u64 y] w fun e w' => e = .returned (.tuple #[.int .u64 q, .int .u64 r]) ∧ Below w.heap.size w w')
    (hs : s = (decide (whi a < 0) != decide (d < 0))) (heq : r = y - r) (hodd : q % 2 = 1) (hm : ¬ q = 18446744073709551615) (w : World) :
    Calls Try.prog 18 #[.agg #[.int .i64 (whi a), .int .u64 (wlo a)], .int .i64 d] w fun e w' => e = .returned (divOut s (q + 1)) ∧ Below w.heap.size w w' := by
  have g1 : ¬ y - r < r := by omega
  have g2 : (r == y - r) = true := by simp; omega
  have g3 : (q % 2 == 1) = true := by simp; omega
  clear heq hodd
  have hm' : (q == 18446744073709551615) = false := by simp; omega
  have e1 : (d == 0) = false := by simp; omega
  have hix : ∀ w, (Instr.index 51 (.agg #[.int .u64 y, .int .u64 z]) (.int .i64 0)).run Try.prog w = .ok (.int .u64 y) w := fun _ => by kernel_rfl
  have HS := Lib.hid hs; clear hs
  have S1' := Lib.hid S1; clear S1
  have S2' := Lib.hid S2; clear S2
  have O' := Lib.hid O; clear O
  have D' := Lib.hid D; clear D
  have hlt' : ¬ y ≤ hi := by omega
  go_enter Try.func18, Try.ntmps18
  go_wp2_with fail
  refine (S1'.out _).mono ?_
  rintro e w1 ⟨rfl, hb1⟩
  have hz1 := hb1.size
  simp at hz1
  have ca0 : w1.cell? ⟨w.heap.size, 0, none⟩ = some (.int .i64 (whi a)) := by rw [hb1.cell (by simp)]; simp [go_sem]
  go_wp2_with fail
  refine (O'.out _).mono ?_
  rintro e w2 ⟨rfl, hb2⟩
  have hz2 := hb2.size
  go_wp2_with fail
  refine (S2'.out _).mono ?_
  rintro e w3 ⟨rfl, hb3⟩
  have hz3 := hb3.size
  have ca3 : w3.cell? ⟨w.heap.size, 0, none⟩ = some (.int .i64 (whi a)) := by rw [hb3.cell (by simp; omega), hb2.cell (by simp; omega), ca0]
  clear ca0
  go_wp2_with fail
  refine (D'.out _).mono ?_
  rintro e w4 ⟨rfl, hb4⟩
  have hz4 := hb4.size
  simp at hz4
  have ca4 : w4.cell? ⟨w.heap.size, 0, none⟩ = some (.int .i64 (whi a)) := by
    have hne : w.heap.size < w3.heap.size := by omega
    rw [hb4.cell (by simp; omega)]; simp [go_sem, ca3, hne]
  clear ca3
  go_wp2_with fail
  all_goals
    go_ret2
    refine ⟨?_, ((((((Below.refl _ _).alloc (Nat.le_refl _) _).trans (hb1.mono (by simp))).trans (hb2.mono (by omega))).trans (hb3.mono (by omega))).alloc (by omega) _).trans (hb4.mono (by simp; omega))⟩
    first
    | (rw [divOut_big _ _ (by omega)]; rfl)
    | (rw [divOut_pos _ _ (by omega) _ _ HS.out (by assumption)]; rfl)
    | (rw [divOut_neg _ _ (by omega) _ _ HS.out (by assumption)]; rfl)

theorem divide_oddmax (a d hi lo y z q r : Int) (s : Bool) (b3 : 1 ≤ y) (b4 : y ≤ 9223372036854775808) (q1 : 0 ≤ q) (q2 : q ≤ 18446744073709551615) (r1 : 0 ≤ r) (r2 : r < y) (hd : d ≠ 0) (b1 : 0 ≤ hi) (hlt : hi < y)
    (S1 : ∀ w, Calls Try.prog 35 #[.agg #[.int .i64 (whi a), .int .u64 (wlo a)]] w fun e w' => e = .returned (.agg #[.int .u64 lo, .int .u64 hi]) ∧ Below w.heap.size w w')
    (O : ∀ w, Calls Try.prog 20 #[.int .i64 d] w fun e w' => e = .returned (.agg #[.int .i64 (whi d), .int .u64 (wlo d)]) ∧ Below w.heap.size w w')
    (S2 : ∀ w, Calls Try.prog 35 #[.agg #[.int .i64 (whi d), .int .u64 (wlo d)]] w fun e w' => e = .returned (.agg #[.int .u64 y, .int .u64 z]) ∧ Below w.heap.size w w')
    (D : ∀ w, Calls Try.prog 36 #[.int .u64 hi, .int .u64 lo, .int .u64 y] w fun e w' => e = .returned (.tuple #[.int .u64 q, .int .u64 r]) ∧ Below w.heap.size w w')
    (hs : s = (decide (whi a < 0) != decide (d < 0))) (heq : r = y - r) (hm : q = 18446744073709551615) (w : World) :
    Calls Try.prog 18 #[.agg #[.int .i64 (whi a), .int .u64 (wlo a)], .int .i64 d] w fun e w' => e = .returned (divOut s (q + 1)) ∧ Below w.heap.size w w' := by
  have g1 : ¬ y - r < r := by omega
  have g2 : (r == y - r) = true := by simp; omega
  clear heq
  subst hm
  have e1 : (d == 0) = false := by simp; omega
  have hix : ∀ w, (Instr.index 51 (.agg #[.int .u64 y, .int .u64 z]) (.int .i64 0)).run Try.prog w = .ok (.int .u64 y) w := fun _ => by kernel_rfl
  have HS := Lib.hid hs; clear hs
  have S1' := Lib.hid S1; clear S1
  have S2' := Lib.hid S2; clear S2
  have O' := Lib.hid O; clear O
  have D' := Lib.hid D; clear D
  have hlt' : ¬ y ≤ hi := by omega
  go_enter Try.func18, Try.ntmps18
  go_wp2_with fail
  refine (S1'.out _).mono ?_
  rintro e w1 ⟨rfl, hb1⟩
  have hz1 := hb1.size
  simp at hz1
  have ca0 : w1.cell? ⟨w.heap.size, 0, none⟩ = some (.int .i64 (whi a)) := by rw [hb1.cell (by simp)]; simp [go_sem]
  go_wp2_with fail
  refine (O'.out _).mono ?_
  rintro e w2 ⟨rfl, hb2⟩
  have hz2 := hb2.size
  go_wp2_with fail
  refine (S2'.out _).mono ?_
  rintro e w3 ⟨rfl, hb3⟩
  have hz3 := hb3.size
  have ca3 : w3.cell? ⟨w.heap.size, 0, none⟩ = some (.int .i64 (whi a)) := by rw [hb3.cell (by simp; omega), hb2.cell (by simp; omega), ca0]
  clear ca0
  go_wp2_with fail
  refine (D'.out _).mono ?_
  rintro e w4 ⟨rfl, hb4⟩
  have hz4 := hb4.size
  simp at hz4
  have ca4 : w4.cell? ⟨w.heap.size, 0, none⟩ = some (.int .i64 (whi a)) := by
    have hne : w.heap.size < w3.heap.size := by omega
    rw [hb4.cell (by simp; omega)]; simp [go_sem, ca3, hne]
  clear ca3
  go_wp2_with fail
  all_goals
    go_ret2
    refine ⟨?_, ((((((Below.refl _ _).alloc (Nat.le_refl _) _).trans (hb1.mono (by simp))).trans (hb2.mono (by omega))).trans (hb3.mono (by omega))).alloc (by omega) _).trans (hb4.mono (by simp; omega))⟩
    first
    | (rw [divOut_big _ _ (by omega)]; rfl)
    | (rw [divOut_pos _ _ (by omega) _ _ HS.out (by assumption)]; rfl)
    | (rw [divOut_neg _ _ (by omega) _ _ HS.out (by assumption)]; rfl)

theorem divide_even (a d hi lo y z q r : Int) (s : Bool) (b3 : 1 ≤ y) (b4 : y ≤ 9223372036854775808) (q1 : 0 ≤ q) (q2 : q ≤ 18446744073709551615) (r1 : 0 ≤ r) (r2 : r < y) (hd : d ≠ 0) (b1 : 0 ≤ hi) (hlt : hi < y)
    (S1 : ∀ w, Calls Try.prog 35 #[.agg #[.int .i64 (whi a), .int .u64 (wlo a)]] w fun e w' => e = .returned (.agg #[.int .u64 lo, .int .u64 hi]) ∧ Below w.heap.size w w')
    (O : ∀ w, Calls Try.prog 20 #[.int .i64 d] w fun e w' => e = .returned (.agg #[.int .i64 (whi d), .int .u64 (wlo d)]) ∧ Below w.heap.size w w')
    (S2 : ∀ w, Calls Try.prog 35 #[.agg #[.int .i64 (whi d), .int .u64 (wlo d)]] w fun e w' => e = .returned (.agg #[.int .u64 y, .int .u64 z]) ∧ Below w.heap.size w w')
    (D : ∀ w, Calls Try.prog 36 #[.int .u64 hi, .int .u64 lo, .int .u64 y] w fun e w' => e = .returned (.tuple #[.int .u64 q, .int .u64 r]) ∧ Below w.heap.size w w')
    (hs : s = (decide (whi a < 0) != decide (d < 0))) (heq : r = y - r) (hodd : ¬ q % 2 = 1) (w : World) :
    Calls Try.prog 18 #[.agg #[.int .i64 (whi a), .int .u64 (wlo a)], .int .i64 d] w fun e w' => e = .returned (divOut s (q)) ∧ Below w.heap.size w w' := by
  have g1 : ¬ y - r < r := by omega
  have g2 : (r == y - r) = true := by simp; omega
  have g3 : (q % 2 == 1) = false := by simp; omega
  clear heq hodd
  have e1 : (d == 0) = false := by simp; omega
  have hix : ∀ w, (Instr.index 51 (.agg #[.int .u64 y, .int .u64 z]) (.int .i64 0)).run Try.prog w = .ok (.int .u64 y) w := fun _ => by kernel_rfl
  have HS := Lib.hid hs; clear hs
  have S1' := Lib.hid S1; clear S1
  have S2' := Lib.hid S2; clear S2
  have O' := Lib.hid O; clear O
  have D' := Lib.hid D; clear D
  have hlt' : ¬ y ≤ hi := by omega
  go_enter Try.func18, Try.ntmps18
  go_wp2_with fail
  refine (S1'.out _).mono ?_
  rintro e w1 ⟨rfl, hb1⟩
  have hz1 := hb1.size
  simp at hz1
  have ca0 : w1.cell? ⟨w.heap.size, 0, none⟩ = some (.int .i64 (whi a)) := by rw [hb1.cell (by simp)]; simp [go_sem]
  go_wp2_with fail
  refine (O'.out _).mono ?_
  rintro e w2 ⟨rfl, hb2⟩
  have hz2 := hb2.size
  go_wp2_with fail
  refine (S2'.out _).mono ?_
  rintro e w3 ⟨rfl, hb3⟩
  have hz3 := hb3.size
  have ca3 : w3.cell? ⟨w.heap.size, 0, none⟩ = some (.int .i64 (whi a)) := by rw [hb3.cell (by simp; omega), hb2.cell (by simp; omega), ca0]
  clear ca0
  go_wp2_with fail
  refine (D'.out _).mono ?_
  rintro e w4 ⟨rfl, hb4⟩
  have hz4 := hb4.size
  simp at hz4
  have ca4 : w4.cell? ⟨w.heap.size, 0, none⟩ = some (.int .i64 (whi a)) := by
    have hne : w.heap.size < w3.heap.size := by omega
    rw [hb4.cell (by simp; omega)]; simp [go_sem, ca3, hne]
  clear ca3
  go_wp2_with fail
  all_goals
    go_ret2
    refine ⟨?_, ((((((Below.refl _ _).alloc (Nat.le_refl _) _).trans (hb1.mono (by simp))).trans (hb2.mono (by omega))).trans (hb3.mono (by omega))).alloc (by omega) _).trans (hb4.mono (by simp; omega))⟩
    first
    | (rw [divOut_big _ _ (by omega)]; rfl)
    | (rw [divOut_pos _ _ (by omega) _ _ HS.out (by assumption)]; rfl)
    | (rw [divOut_neg _ _ (by omega) _ _ HS.out (by assumption)]; rfl)

theorem divide_lt (a d hi lo y z q r : Int) (s : Bool) (b3 : 1 ≤ y) (b4 : y ≤ 9223372036854775808) (q1 : 0 ≤ q) (q2 : q ≤ 18446744073709551615) (r1 : 0 ≤ r) (r2 : r < y) (hd : d ≠ 0) (b1 : 0 ≤ hi) (hlt : hi < y)
    (S1 : ∀ w, Calls Try.prog 35 #[.agg #[.int .i64 (whi a), .int .u64 (wlo a)]] w fun e w' => e = .returned (.agg #[.int .u64 lo, .int .u64 hi]) ∧ Below w.heap.size w w')
    (O : ∀ w, Calls Try.prog 20 #[.int .i64 d] w fun e w' => e = .returned (.agg #[.int .i64 (whi d), .int .u64 (wlo d)]) ∧ Below w.heap.size w w')
    (S2 : ∀ w, Calls Try.prog 35 #[.agg #[.int .i64 (whi d), .int .u64 (wlo d)]] w fun e w' => e = .returned (.agg #[.int .u64 y, .int .u64 z]) ∧ Below w.heap.size w w')
    (D : ∀ w, Calls Try.prog 36 #[.int .u64 hi, .int .u64 lo, .int .u64 y] w fun e w' => e = .returned (.tuple #[.int .u64 q, .int .u64 r]) ∧ Below w.heap.size w w')
    (hs : s = (decide (whi a < 0) != decide (d < 0))) (hlt2 : r < y - r) (w : World) :
    Calls Try.prog 18 #[.agg #[.int .i64 (whi a), .int .u64 (wlo a)], .int .i64 d] w fun e w' => e = .returned (divOut s (q)) ∧ Below w.heap.size w w' := by
  have g1 : ¬ y - r < r := by omega
  have g2 : (r == y - r) = false := by simp; omega
  have e1 : (d == 0) = false := by simp; omega
  have hix : ∀ w, (Instr.index 51 (.agg #[.int .u64 y, .int .u64 z]) (.int .i64 0)).run Try.prog w = .ok (.int .u64 y) w := fun _ => by kernel_rfl
  have HS := Lib.hid hs; clear hs
  have S1' := Lib.hid S1; clear S1
  have S2' := Lib.hid S2; clear S2
  have O' := Lib.hid O; clear O
  have D' := Lib.hid D; clear D
  have hlt' : ¬ y ≤ hi := by omega
  go_enter Try.func18, Try.ntmps18
  go_wp2_with fail
  refine (S1'.out _).mono ?_
  rintro e w1 ⟨rfl, hb1⟩
  have hz1 := hb1.size
  simp at hz1
  have ca0 : w1.cell? ⟨w.heap.size, 0, none⟩ = some (.int .i64 (whi a)) := by rw [hb1.cell (by simp)]; simp [go_sem]
  go_wp2_with fail
  refine (O'.out _).mono ?_
  rintro e w2 ⟨rfl, hb2⟩
  have hz2 := hb2.size
  go_wp2_with fail
  refine (S2'.out _).mono ?_
  rintro e w3 ⟨rfl, hb3⟩
  have hz3 := hb3.size
  have ca3 : w3.cell? ⟨w.heap.size, 0, none⟩ = some (.int .i64 (whi a)) := by rw [hb3.cell (by simp; omega), hb2.cell (by simp; omega), ca0]
  clear ca0
  go_wp2_with fail
  refine (D'.out _).mono ?_
  rintro e w4 ⟨rfl, hb4⟩
  have hz4 := hb4.size
  simp at hz4
  have ca4 : w4.cell? ⟨w.heap.size, 0, none⟩ = some (.int .i64 (whi a)) := by
    have hne : w.heap.size < w3.heap.size := by omega
    rw [hb4.cell (by simp; omega)]; simp [go_sem, ca3, hne]
  clear ca3
  go_wp2_with fail
  all_goals
    go_ret2
    refine ⟨?_, ((((((Below.refl _ _).alloc (Nat.le_refl _) _).trans (hb1.mono (by simp))).trans (hb2.mono (by omega))).trans (hb3.mono (by omega))).alloc (by omega) _).trans (hb4.mono (by simp; omega))⟩
    first
    | (rw [divOut_big _ _ (by omega)]; rfl)
    | (rw [divOut_pos _ _ (by omega) _ _ HS.out (by assumption)]; rfl)
    | (rw [divOut_neg _ _ (by omega) _ _ HS.out (by assumption)]; rfl)
end Go.Proofs.Ytjjibddpgjoeeaa
