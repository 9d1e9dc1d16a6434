import Derived.Test.YtiahadohgfahcaaDoorSumsWalk
namespace Go.Proofs.YtiahadohgfahcaaDoor
open Go.ChangeShapes Go.WideShapes Go.ChangeAt Go.RowKit Go.Sort
set_option linter.unusedVariables false

theorem max_abs (a : Int) : max a (-a) = absI a := by unfold absI; split <;> omega

set_option maxHeartbeats 8000000 in
set_option maxRecDepth 100000 in
theorem miss_outa (a b : Int) (a1 : -9223372036854775808 ≤ a) (a2 : a ≤ 9223372036854775807) (b1 : -9223372036854775808 ≤ b) (b2 : b ≤ 9223372036854775807) (k1 : a < -1152921504606846976) (w : World) (h : Tabs w) :
    Calls Tryd.prog 6 #[.int .i64 a, .int .i64 b] w fun e w' => e = .returned (.bool true) ∧ Below w.heap.size w w' := by
  have HE := Lib.hid (example_any w h)
  clear h
  go_enter Tryd.func6, Tryd.ntmps6
  go_wp2_with fail
  refine HE.out.mono ?_
  rintro e w1 ⟨rfl, hb1⟩
  go_wp2_with fail
  go_ret
  have z1 := hb1.size
  exact ⟨rfl, hb1⟩

set_option maxHeartbeats 8000000 in
set_option maxRecDepth 100000 in
theorem miss_outb (a b : Int) (a1 : -9223372036854775808 ≤ a) (a2 : a ≤ 9223372036854775807) (b1 : -9223372036854775808 ≤ b) (b2 : b ≤ 9223372036854775807) (k1 : ¬ a < -1152921504606846976) (k2 : 1152921504606846976 < a) (w : World) (h : Tabs w) :
    Calls Tryd.prog 6 #[.int .i64 a, .int .i64 b] w fun e w' => e = .returned (.bool true) ∧ Below w.heap.size w w' := by
  have HE := Lib.hid (example_any w h)
  clear h
  go_enter Tryd.func6, Tryd.ntmps6
  go_wp2_with fail
  refine HE.out.mono ?_
  rintro e w1 ⟨rfl, hb1⟩
  go_wp2_with fail
  go_ret
  have z1 := hb1.size
  exact ⟨rfl, hb1⟩

set_option maxHeartbeats 8000000 in
set_option maxRecDepth 100000 in
theorem miss_outc (a b : Int) (a1 : -9223372036854775808 ≤ a) (a2 : a ≤ 9223372036854775807) (b1 : -9223372036854775808 ≤ b) (b2 : b ≤ 9223372036854775807) (k1 : ¬ a < -1152921504606846976) (k2 : ¬ 1152921504606846976 < a) (k3 : b < -1152921504606846976) (w : World) (h : Tabs w) :
    Calls Tryd.prog 6 #[.int .i64 a, .int .i64 b] w fun e w' => e = .returned (.bool true) ∧ Below w.heap.size w w' := by
  have HE := Lib.hid (example_any w h)
  clear h
  go_enter Tryd.func6, Tryd.ntmps6
  go_wp2_with fail
  refine HE.out.mono ?_
  rintro e w1 ⟨rfl, hb1⟩
  go_wp2_with fail
  go_ret
  have z1 := hb1.size
  exact ⟨rfl, hb1⟩

set_option maxHeartbeats 8000000 in
set_option maxRecDepth 100000 in
theorem miss_outd (a b : Int) (a1 : -9223372036854775808 ≤ a) (a2 : a ≤ 9223372036854775807) (b1 : -9223372036854775808 ≤ b) (b2 : b ≤ 9223372036854775807) (k1 : ¬ a < -1152921504606846976) (k2 : ¬ 1152921504606846976 < a) (k3 : ¬ b < -1152921504606846976) (k4 : 1152921504606846976 < b) (w : World) (h : Tabs w) :
    Calls Tryd.prog 6 #[.int .i64 a, .int .i64 b] w fun e w' => e = .returned (.bool true) ∧ Below w.heap.size w w' := by
  have HE := Lib.hid (example_any w h)
  clear h
  go_enter Tryd.func6, Tryd.ntmps6
  go_wp2_with fail
  refine HE.out.mono ?_
  rintro e w1 ⟨rfl, hb1⟩
  go_wp2_with fail
  go_ret
  have z1 := hb1.size
  exact ⟨rfl, hb1⟩

set_option maxHeartbeats 8000000 in
set_option maxRecDepth 100000 in
theorem miss_tt (a b mx dx h1 l1 h2 l2 h3 l3 h4 l4 : Int) (a1 : -1152921504606846976 ≤ a) (a2 : a ≤ 1152921504606846976) (b1 : -1152921504606846976 ≤ b) (b2 : b ≤ 1152921504606846976)
    (L : ∀ w, Calls Tryd.prog 17 #[.int .i64 a, .int .i64 b] w fun e w' => e = .returned (.tuple #[.int .i64 mx, .bool true]) ∧ Below w.heap.size w w')
    (D : ∀ w, Calls Tryd.prog 18 #[.int .i64 a, .int .i64 b] w fun e w' => e = .returned (.tuple #[.int .i64 dx, .bool true]) ∧ Below w.heap.size w w')
    (w : World) (h : Tabs w) :
    Calls Tryd.prog 6 #[.int .i64 a, .int .i64 b] w fun e w' => e = .returned (.bool true) ∧ Below w.heap.size w w' := by
  have HE := Lib.hid (example_any w h)
  clear h
  have HL := Lib.hid L; clear L
  have HD := Lib.hid D; clear D
  go_enter Tryd.func6, Tryd.ntmps6
  go_wp2_with fail
  refine HE.out.mono ?_
  rintro e w1 ⟨rfl, hb1⟩
  go_wp2_with fail
  (with_reducible refine (HL.out _).mono ?_)
  rintro e w2 ⟨rfl, hb2⟩
  go_wp2_with fail
  (with_reducible refine (HD.out _).mono ?_)
  rintro e w3 ⟨rfl, hb3⟩
  go_wp2_with fail
  go_ret
  have z1 := hb1.size
  have z2 := hb2.size
  have z3 := hb3.size
  exact ⟨rfl, ((hb1).trans (hb2.mono (by omega))).trans (hb3.mono (by omega))⟩

set_option maxHeartbeats 8000000 in
set_option maxRecDepth 100000 in
theorem miss_tz (a b mx dx h1 l1 h2 l2 h3 l3 h4 l4 : Int) (a1 : -1152921504606846976 ≤ a) (a2 : a ≤ 1152921504606846976) (b1 : -1152921504606846976 ≤ b) (b2 : b ≤ 1152921504606846976) (hz : b = 0)
    (L : ∀ w, Calls Tryd.prog 17 #[.int .i64 a, .int .i64 b] w fun e w' => e = .returned (.tuple #[.int .i64 mx, .bool true]) ∧ Below w.heap.size w w')
    (D : ∀ w, Calls Tryd.prog 18 #[.int .i64 a, .int .i64 b] w fun e w' => e = .returned (.tuple #[.int .i64 dx, .bool false]) ∧ Below w.heap.size w w')
    (w : World) (h : Tabs w) :
    Calls Tryd.prog 6 #[.int .i64 a, .int .i64 b] w fun e w' => e = .returned (.bool true) ∧ Below w.heap.size w w' := by
  have HE := Lib.hid (example_any w h)
  clear h
  have HL := Lib.hid L; clear L
  have HD := Lib.hid D; clear D
  have en : (b == 0) = true := by simp; omega
  clear hz
  go_enter Tryd.func6, Tryd.ntmps6
  go_wp2_with fail
  refine HE.out.mono ?_
  rintro e w1 ⟨rfl, hb1⟩
  go_wp2_with fail
  (with_reducible refine (HL.out _).mono ?_)
  rintro e w2 ⟨rfl, hb2⟩
  go_wp2_with fail
  (with_reducible refine (HD.out _).mono ?_)
  rintro e w3 ⟨rfl, hb3⟩
  go_wp2_with fail
  go_ret
  have z1 := hb1.size
  have z2 := hb2.size
  have z3 := hb3.size
  exact ⟨rfl, ((hb1).trans (hb2.mono (by omega))).trans (hb3.mono (by omega))⟩

set_option maxHeartbeats 8000000 in
set_option maxRecDepth 100000 in
theorem miss_tf (a b mx dx h1 l1 h2 l2 h3 l3 h4 l4 : Int) (a1 : -1152921504606846976 ≤ a) (a2 : a ≤ 1152921504606846976) (b1 : -1152921504606846976 ≤ b) (b2 : b ≤ 1152921504606846976) (hz : b ≠ 0)
    (L : ∀ w, Calls Tryd.prog 17 #[.int .i64 a, .int .i64 b] w fun e w' => e = .returned (.tuple #[.int .i64 mx, .bool true]) ∧ Below w.heap.size w w')
    (D : ∀ w, Calls Tryd.prog 18 #[.int .i64 a, .int .i64 b] w fun e w' => e = .returned (.tuple #[.int .i64 dx, .bool false]) ∧ Below w.heap.size w w')
    (Y1 : ∀ w, Calls Tryd.prog 20 #[.int .i64 1000000, .int .i64 (max a (-a))] w fun e w' => e = .returned (.agg #[.int .i64 h3, .int .u64 l3]) ∧ Below w.heap.size w w')
    (Y2 : ∀ w, Calls Tryd.prog 20 #[.int .i64 1152921504606846976, .int .i64 (max b (-b))] w fun e w' => e = .returned (.agg #[.int .i64 h4, .int .u64 l4]) ∧ Below w.heap.size w w')
    (Y3 : ∀ w, Calls Tryd.prog 19 #[.agg #[.int .i64 h3, .int .u64 l3], .agg #[.int .i64 h4, .int .u64 l4]] w fun e w' => e = .returned (.int .i64 1) ∧ Below w.heap.size w w')
    (w : World) (h : Tabs w) :
    Calls Tryd.prog 6 #[.int .i64 a, .int .i64 b] w fun e w' => e = .returned (.bool true) ∧ Below w.heap.size w w' := by
  have HE := Lib.hid (example_any w h)
  clear h
  have HL := Lib.hid L; clear L
  have HD := Lib.hid D; clear D
  have HY1 := Lib.hid Y1; clear Y1
  have HY2 := Lib.hid Y2; clear Y2
  have HY3 := Lib.hid Y3; clear Y3
  have en : (b == 0) = false := by simp; omega
  clear hz
  go_enter Tryd.func6, Tryd.ntmps6
  go_wp2_with fail
  refine HE.out.mono ?_
  rintro e w1 ⟨rfl, hb1⟩
  go_wp2_with fail
  (with_reducible refine (HL.out _).mono ?_)
  rintro e w2 ⟨rfl, hb2⟩
  go_wp2_with fail
  (with_reducible refine (HD.out _).mono ?_)
  rintro e w3 ⟨rfl, hb3⟩
  go_wp2_with fail
  (with_reducible refine (HY1.out _).mono ?_)
  rintro e w4 ⟨rfl, hb4⟩
  go_wp2_with fail
  (with_reducible refine (HY2.out _).mono ?_)
  rintro e w5 ⟨rfl, hb5⟩
  go_wp2_with fail
  (with_reducible refine (HY3.out _).mono ?_)
  rintro e w6 ⟨rfl, hb6⟩
  go_wp2_with fail
  go_ret
  have z1 := hb1.size
  have z2 := hb2.size
  have z3 := hb3.size
  have z4 := hb4.size
  have z5 := hb5.size
  have z6 := hb6.size
  exact ⟨rfl, (((((hb1).trans (hb2.mono (by omega))).trans (hb3.mono (by omega))).trans (hb4.mono (by omega))).trans (hb5.mono (by omega))).trans (hb6.mono (by omega))⟩

set_option maxHeartbeats 8000000 in
set_option maxRecDepth 100000 in
theorem miss_ft (a b mx dx h1 l1 h2 l2 h3 l3 h4 l4 : Int) (a1 : -1152921504606846976 ≤ a) (a2 : a ≤ 1152921504606846976) (b1 : -1152921504606846976 ≤ b) (b2 : b ≤ 1152921504606846976)
    (L : ∀ w, Calls Tryd.prog 17 #[.int .i64 a, .int .i64 b] w fun e w' => e = .returned (.tuple #[.int .i64 mx, .bool false]) ∧ Below w.heap.size w w')
    (D : ∀ w, Calls Tryd.prog 18 #[.int .i64 a, .int .i64 b] w fun e w' => e = .returned (.tuple #[.int .i64 dx, .bool true]) ∧ Below w.heap.size w w')
    (X1 : ∀ w, Calls Tryd.prog 20 #[.int .i64 (max a (-a)), .int .i64 (max b (-b))] w fun e w' => e = .returned (.agg #[.int .i64 h1, .int .u64 l1]) ∧ Below w.heap.size w w')
    (X2 : ∀ w, Calls Tryd.prog 20 #[.int .i64 1000000, .int .i64 1152921504606846976] w fun e w' => e = .returned (.agg #[.int .i64 h2, .int .u64 l2]) ∧ Below w.heap.size w w')
    (X3 : ∀ w, Calls Tryd.prog 19 #[.agg #[.int .i64 h1, .int .u64 l1], .agg #[.int .i64 h2, .int .u64 l2]] w fun e w' => e = .returned (.int .i64 1) ∧ Below w.heap.size w w')
    (w : World) (h : Tabs w) :
    Calls Tryd.prog 6 #[.int .i64 a, .int .i64 b] w fun e w' => e = .returned (.bool true) ∧ Below w.heap.size w w' := by
  have HE := Lib.hid (example_any w h)
  clear h
  have HL := Lib.hid L; clear L
  have HD := Lib.hid D; clear D
  have HX1 := Lib.hid X1; clear X1
  have HX2 := Lib.hid X2; clear X2
  have HX3 := Lib.hid X3; clear X3
  go_enter Tryd.func6, Tryd.ntmps6
  go_wp2_with fail
  refine HE.out.mono ?_
  rintro e w1 ⟨rfl, hb1⟩
  go_wp2_with fail
  (with_reducible refine (HL.out _).mono ?_)
  rintro e w2 ⟨rfl, hb2⟩
  go_wp2_with fail
  (with_reducible refine (HX1.out _).mono ?_)
  rintro e w3 ⟨rfl, hb3⟩
  go_wp2_with fail
  (with_reducible refine (HX2.out _).mono ?_)
  rintro e w4 ⟨rfl, hb4⟩
  go_wp2_with fail
  (with_reducible refine (HX3.out _).mono ?_)
  rintro e w5 ⟨rfl, hb5⟩
  go_wp2_with fail
  (with_reducible refine (HD.out _).mono ?_)
  rintro e w6 ⟨rfl, hb6⟩
  go_wp2_with fail
  go_ret
  have z1 := hb1.size
  have z2 := hb2.size
  have z3 := hb3.size
  have z4 := hb4.size
  have z5 := hb5.size
  have z6 := hb6.size
  exact ⟨rfl, (((((hb1).trans (hb2.mono (by omega))).trans (hb3.mono (by omega))).trans (hb4.mono (by omega))).trans (hb5.mono (by omega))).trans (hb6.mono (by omega))⟩

set_option maxHeartbeats 8000000 in
set_option maxRecDepth 100000 in
theorem miss_fz (a b mx dx h1 l1 h2 l2 h3 l3 h4 l4 : Int) (a1 : -1152921504606846976 ≤ a) (a2 : a ≤ 1152921504606846976) (b1 : -1152921504606846976 ≤ b) (b2 : b ≤ 1152921504606846976) (hz : b = 0)
    (L : ∀ w, Calls Tryd.prog 17 #[.int .i64 a, .int .i64 b] w fun e w' => e = .returned (.tuple #[.int .i64 mx, .bool false]) ∧ Below w.heap.size w w')
    (D : ∀ w, Calls Tryd.prog 18 #[.int .i64 a, .int .i64 b] w fun e w' => e = .returned (.tuple #[.int .i64 dx, .bool false]) ∧ Below w.heap.size w w')
    (X1 : ∀ w, Calls Tryd.prog 20 #[.int .i64 (max a (-a)), .int .i64 (max b (-b))] w fun e w' => e = .returned (.agg #[.int .i64 h1, .int .u64 l1]) ∧ Below w.heap.size w w')
    (X2 : ∀ w, Calls Tryd.prog 20 #[.int .i64 1000000, .int .i64 1152921504606846976] w fun e w' => e = .returned (.agg #[.int .i64 h2, .int .u64 l2]) ∧ Below w.heap.size w w')
    (X3 : ∀ w, Calls Tryd.prog 19 #[.agg #[.int .i64 h1, .int .u64 l1], .agg #[.int .i64 h2, .int .u64 l2]] w fun e w' => e = .returned (.int .i64 1) ∧ Below w.heap.size w w')
    (w : World) (h : Tabs w) :
    Calls Tryd.prog 6 #[.int .i64 a, .int .i64 b] w fun e w' => e = .returned (.bool true) ∧ Below w.heap.size w w' := by
  have HE := Lib.hid (example_any w h)
  clear h
  have HL := Lib.hid L; clear L
  have HD := Lib.hid D; clear D
  have HX1 := Lib.hid X1; clear X1
  have HX2 := Lib.hid X2; clear X2
  have HX3 := Lib.hid X3; clear X3
  have en : (b == 0) = true := by simp; omega
  clear hz
  go_enter Tryd.func6, Tryd.ntmps6
  go_wp2_with fail
  refine HE.out.mono ?_
  rintro e w1 ⟨rfl, hb1⟩
  go_wp2_with fail
  (with_reducible refine (HL.out _).mono ?_)
  rintro e w2 ⟨rfl, hb2⟩
  go_wp2_with fail
  (with_reducible refine (HX1.out _).mono ?_)
  rintro e w3 ⟨rfl, hb3⟩
  go_wp2_with fail
  (with_reducible refine (HX2.out _).mono ?_)
  rintro e w4 ⟨rfl, hb4⟩
  go_wp2_with fail
  (with_reducible refine (HX3.out _).mono ?_)
  rintro e w5 ⟨rfl, hb5⟩
  go_wp2_with fail
  (with_reducible refine (HD.out _).mono ?_)
  rintro e w6 ⟨rfl, hb6⟩
  go_wp2_with fail
  go_ret
  have z1 := hb1.size
  have z2 := hb2.size
  have z3 := hb3.size
  have z4 := hb4.size
  have z5 := hb5.size
  have z6 := hb6.size
  exact ⟨rfl, (((((hb1).trans (hb2.mono (by omega))).trans (hb3.mono (by omega))).trans (hb4.mono (by omega))).trans (hb5.mono (by omega))).trans (hb6.mono (by omega))⟩

set_option maxHeartbeats 8000000 in
set_option maxRecDepth 100000 in
theorem miss_ff (a b mx dx h1 l1 h2 l2 h3 l3 h4 l4 : Int) (a1 : -1152921504606846976 ≤ a) (a2 : a ≤ 1152921504606846976) (b1 : -1152921504606846976 ≤ b) (b2 : b ≤ 1152921504606846976) (hz : b ≠ 0)
    (L : ∀ w, Calls Tryd.prog 17 #[.int .i64 a, .int .i64 b] w fun e w' => e = .returned (.tuple #[.int .i64 mx, .bool false]) ∧ Below w.heap.size w w')
    (D : ∀ w, Calls Tryd.prog 18 #[.int .i64 a, .int .i64 b] w fun e w' => e = .returned (.tuple #[.int .i64 dx, .bool false]) ∧ Below w.heap.size w w')
    (X1 : ∀ w, Calls Tryd.prog 20 #[.int .i64 (max a (-a)), .int .i64 (max b (-b))] w fun e w' => e = .returned (.agg #[.int .i64 h1, .int .u64 l1]) ∧ Below w.heap.size w w')
    (X2 : ∀ w, Calls Tryd.prog 20 #[.int .i64 1000000, .int .i64 1152921504606846976] w fun e w' => e = .returned (.agg #[.int .i64 h2, .int .u64 l2]) ∧ Below w.heap.size w w')
    (X3 : ∀ w, Calls Tryd.prog 19 #[.agg #[.int .i64 h1, .int .u64 l1], .agg #[.int .i64 h2, .int .u64 l2]] w fun e w' => e = .returned (.int .i64 1) ∧ Below w.heap.size w w')
    (Y1 : ∀ w, Calls Tryd.prog 20 #[.int .i64 1000000, .int .i64 (max a (-a))] w fun e w' => e = .returned (.agg #[.int .i64 h3, .int .u64 l3]) ∧ Below w.heap.size w w')
    (Y2 : ∀ w, Calls Tryd.prog 20 #[.int .i64 1152921504606846976, .int .i64 (max b (-b))] w fun e w' => e = .returned (.agg #[.int .i64 h4, .int .u64 l4]) ∧ Below w.heap.size w w')
    (Y3 : ∀ w, Calls Tryd.prog 19 #[.agg #[.int .i64 h3, .int .u64 l3], .agg #[.int .i64 h4, .int .u64 l4]] w fun e w' => e = .returned (.int .i64 1) ∧ Below w.heap.size w w')
    (w : World) (h : Tabs w) :
    Calls Tryd.prog 6 #[.int .i64 a, .int .i64 b] w fun e w' => e = .returned (.bool true) ∧ Below w.heap.size w w' := by
  have HE := Lib.hid (example_any w h)
  clear h
  have HL := Lib.hid L; clear L
  have HD := Lib.hid D; clear D
  have HX1 := Lib.hid X1; clear X1
  have HX2 := Lib.hid X2; clear X2
  have HX3 := Lib.hid X3; clear X3
  have HY1 := Lib.hid Y1; clear Y1
  have HY2 := Lib.hid Y2; clear Y2
  have HY3 := Lib.hid Y3; clear Y3
  have en : (b == 0) = false := by simp; omega
  clear hz
  go_enter Tryd.func6, Tryd.ntmps6
  go_wp2_with fail
  refine HE.out.mono ?_
  rintro e w1 ⟨rfl, hb1⟩
  go_wp2_with fail
  (with_reducible refine (HL.out _).mono ?_)
  rintro e w2 ⟨rfl, hb2⟩
  go_wp2_with fail
  (with_reducible refine (HX1.out _).mono ?_)
  rintro e w3 ⟨rfl, hb3⟩
  go_wp2_with fail
  (with_reducible refine (HX2.out _).mono ?_)
  rintro e w4 ⟨rfl, hb4⟩
  go_wp2_with fail
  (with_reducible refine (HX3.out _).mono ?_)
  rintro e w5 ⟨rfl, hb5⟩
  go_wp2_with fail
  (with_reducible refine (HD.out _).mono ?_)
  rintro e w6 ⟨rfl, hb6⟩
  go_wp2_with fail
  (with_reducible refine (HY1.out _).mono ?_)
  rintro e w7 ⟨rfl, hb7⟩
  go_wp2_with fail
  (with_reducible refine (HY2.out _).mono ?_)
  rintro e w8 ⟨rfl, hb8⟩
  go_wp2_with fail
  (with_reducible refine (HY3.out _).mono ?_)
  rintro e w9 ⟨rfl, hb9⟩
  go_wp2_with fail
  go_ret
  have z1 := hb1.size
  have z2 := hb2.size
  have z3 := hb3.size
  have z4 := hb4.size
  have z5 := hb5.size
  have z6 := hb6.size
  have z7 := hb7.size
  have z8 := hb8.size
  have z9 := hb9.size
  exact ⟨rfl, ((((((((hb1).trans (hb2.mono (by omega))).trans (hb3.mono (by omega))).trans (hb4.mono (by omega))).trans (hb5.mono (by omega))).trans (hb6.mono (by omega))).trans (hb7.mono (by omega))).trans (hb8.mono (by omega))).trans (hb9.mono (by omega))⟩

theorem over_gt (x y : Int) (hx : -170141183460469231731687303715884105728 ≤ x) (hx2 : x < 170141183460469231731687303715884105728) (hy : -170141183460469231731687303715884105728 ≤ y) (hy2 : y < 170141183460469231731687303715884105728) (h : y < x) (w : World) :
    Calls Tryd.prog 19 #[.agg #[.int .i64 (whi x), .int .u64 (wlo x)], .agg #[.int .i64 (whi y), .int .u64 (wlo y)]] w fun e w' => e = .returned (.int .i64 1) ∧ Below w.heap.size w w' :=
  compare_gt x y (by rw [norm_in x hx hx2, norm_in y hy hy2]; exact h) w

theorem mulR_none (a b : Int) (hA : fit a = true) (hB : fit b = true) (h : (mulR a b).2 = false) : 1152921504606846976 * 1000000 < absI a * absI b := by
  unfold mulR at h
  rw [if_pos ⟨hA, hB⟩] at h
  exact sc_none _ _ _ (Int.mul_nonneg (absI_lo a) (absI_lo b)) (by decide) h
theorem divR_none (a b : Int) (hA : fit a = true) (hB : fit b = true) (hz : b ≠ 0) (h : (divR a b).2 = false) : 1152921504606846976 * absI b < absI a * 1000000 := by
  unfold divR at h
  rw [if_pos ⟨hA, hB, hz⟩] at h
  exact sc_none _ _ _ (Int.mul_nonneg (absI_lo a) (by decide)) (absI_pos hz) h

theorem miss_walk (a b : Int) (a1 : -9223372036854775808 ≤ a) (a2 : a ≤ 9223372036854775807) (b1 : -9223372036854775808 ≤ b) (b2 : b ≤ 9223372036854775807) (w : World) (h : Tabs w) :
    Calls Tryd.prog 6 #[.int .i64 a, .int .i64 b] w fun e w' => e = .returned (.bool true) ∧ Below w.heap.size w w' := by
  by_cases k1 : a < -1152921504606846976
  · exact miss_outa a b a1 a2 b1 b2 k1 w h
  by_cases k2 : 1152921504606846976 < a
  · exact miss_outb a b a1 a2 b1 b2 k1 k2 w h
  by_cases k3 : b < -1152921504606846976
  · exact miss_outc a b a1 a2 b1 b2 k1 k2 k3 w h
  by_cases k4 : 1152921504606846976 < b
  · exact miss_outd a b a1 a2 b1 b2 k1 k2 k3 k4 w h
  have x1 : -1152921504606846976 ≤ a := by omega
  have x2 : a ≤ 1152921504606846976 := by omega
  have y1 : -1152921504606846976 ≤ b := by omega
  have y2 : b ≤ 1152921504606846976 := by omega
  have hA := fit_of x1 x2
  have hB := fit_of y1 y2
  have L := fun w => mulD_any a b w a1 a2 b1 b2
  have D := fun w => divD_any a b w a1 a2 b1 b2
  have np := absI_lo a
  have np2 := absI_hi x1 x2
  have nq := absI_lo b
  have nq2 := absI_hi y1 y2
  have X1 := fun w => mul_any (max a (-a)) (max b (-b)) (by omega) (by omega) (by omega) (by omega) w
  have X2 := fun w => mul_any 1000000 1152921504606846976 (by decide) (by decide) (by decide) (by decide) w
  have Y1 := fun w => mul_any 1000000 (max a (-a)) (by decide) (by decide) (by omega) (by omega) w
  have Y2 := fun w => mul_any 1152921504606846976 (max b (-b)) (by decide) (by decide) (by omega) (by omega) w
  have X3 : (mulR a b).2 = false → ∀ w, Calls Tryd.prog 19 #[.agg #[.int .i64 (whi (max a (-a) * max b (-b))), .int .u64 (wlo (max a (-a) * max b (-b)))], .agg #[.int .i64 (whi (1000000 * 1152921504606846976)), .int .u64 (wlo (1000000 * 1152921504606846976))]] w fun e w' => e = .returned (.int .i64 1) ∧ Below w.heap.size w w' := by
    intro hm w
    have hk := mulR_none a b hA hB hm
    have pn : absI a * absI b ≤ 1152921504606846976 * 1152921504606846976 := Int.mul_le_mul np2 nq2 nq (by omega)
    have pm := Int.mul_nonneg np nq
    rw [max_abs, max_abs]
    exact over_gt _ _ (by omega) (by omega) (by decide) (by decide) (by omega) w
  have Y3 : b ≠ 0 → (divR a b).2 = false → ∀ w, Calls Tryd.prog 19 #[.agg #[.int .i64 (whi (1000000 * max a (-a))), .int .u64 (wlo (1000000 * max a (-a)))], .agg #[.int .i64 (whi (1152921504606846976 * max b (-b))), .int .u64 (wlo (1152921504606846976 * max b (-b)))]] w fun e w' => e = .returned (.int .i64 1) ∧ Below w.heap.size w w' := by
    intro hz hm w
    have hk := divR_none a b hA hB hz hm
    rw [max_abs, max_abs]
    exact over_gt _ _ (by omega) (by omega) (by omega) (by omega) (by omega) w
  generalize mulR a b = m at *
  generalize divR a b = d at *
  obtain ⟨mx, mp⟩ := m
  obtain ⟨dx, dp⟩ := d
  simp only [pr] at L D
  simp only at X3 Y3
  cases mp
  · cases dp
    · by_cases hz : b = 0
      · exact miss_fz a b mx dx _ _ _ _ 0 0 0 0 x1 x2 y1 y2 hz L D X1 X2 (X3 rfl) w h
      · exact miss_ff a b mx dx _ _ _ _ _ _ _ _ x1 x2 y1 y2 hz L D X1 X2 (X3 rfl) Y1 Y2 (Y3 hz rfl) w h
    · exact miss_ft a b mx dx _ _ _ _ 0 0 0 0 x1 x2 y1 y2 L D X1 X2 (X3 rfl) w h
  · cases dp
    · by_cases hz : b = 0
      · exact miss_tz a b mx dx 0 0 0 0 0 0 0 0 x1 x2 y1 y2 hz L D w h
      · exact miss_tf a b mx dx 0 0 0 0 _ _ _ _ x1 x2 y1 y2 hz L D Y1 Y2 (Y3 hz rfl) w h
    · exact miss_tt a b mx dx 0 0 0 0 0 0 0 0 x1 x2 y1 y2 L D w h
end Go.Proofs.YtiahadohgfahcaaDoor
