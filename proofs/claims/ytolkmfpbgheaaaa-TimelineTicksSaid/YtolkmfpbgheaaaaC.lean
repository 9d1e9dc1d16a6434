import Derived.Test.YtolkmfpbgheaaaaA
import Derived.Deep.QuietTactic
import Derived.BigQuiet
import Derived.Outline
namespace Go.Proofs.Ytolkmfpbgheaaaa
open Go.ChangeShapes Go.WideShapes Go.ChangeAt Go.RowKit
set_option linter.unusedVariables false
set_option linter.unusedSimpArgs false

theorem below_drewN {B : Nat} {a w : World} (h : Below B a w) (n : Nat) : Below B a (w.drewN n) := ⟨h.os, h.tape, h.output, h.size, h.block⟩
theorem tum (s t : Int) (h : 1 ≤ s) (k : 0 ≤ t) : 0 ≤ t / s ∧ t / s ≤ t ∧ 0 ≤ t / s * s ∧ t / s * s ≤ t ∧ 0 ≤ t % s ∧ t % s ≤ t ∧ t / s * s = t - t % s := by
  have e := Int.mul_ediv_add_emod t s
  have m0 : 0 ≤ t % s := Int.emod_nonneg _ (by omega)
  have q0 : 0 ≤ t / s := Int.ediv_nonneg k (by omega)
  have q1 : t / s * 1 ≤ t / s * s := Int.mul_le_mul_of_nonneg_left h q0
  rw [Int.mul_comm] at e
  refine ⟨q0, ?_, ?_, ?_, m0, ?_, ?_⟩ <;> omega
theorem okW_yes {k s : Int} (h : okW k s = true) : k = 1 ∧ s = 0 ∨ 2 ≤ k ∧ k ≤ 4 ∧ 1 ≤ s ∧ s ≤ 1099511627776 := of_decide_eq_true h
theorem okT_yes {t : Int} (h : okT t = true) : 0 ≤ t ∧ t ≤ 1099511627776 := of_decide_eq_true h

set_option maxHeartbeats 2000000 in
theorem bounds_bad (k s t : Int) (kw : okW k s = false) (w : World) : Calls Try.prog 19 #[iv k s, .int .i64 t] w fun e w' => e = .returned (.tuple #[iv 0 0, .bool false]) ∧ Below w.heap.size w w' := by
  have V1 := fun w => wvalid_any k s w
  rw [kw] at V1
  have H1 := Lib.hid V1
  clear V1
  go_enter Try.func19, Try.ntmps19
  go_wp2_with fail
  refine (H1.out _).mono ?_
  rintro e w1 ⟨rfl, hb1⟩
  have hz1 := hb1.size
  obtain ⟨hc1, hf1⟩ := bcell hb1
  simp at hz1
  have l0 : w.heap.size < w1.heap.size := by omega
  have l1 : w.heap.size + 1 < w1.heap.size := by omega
  go_wp2_with fail
  all_goals
    refine bodyPost_ret (v := .tuple #[.agg #[.int .i64 0, .int .i64 0], .bool false]) ?_ rfl ⟨rfl, ((((((Below.refl _ _).alloc (Nat.le_refl _) _).alloc (by first | (simp; done) | (simp; omega)) _).trans (hb1.mono (by first | (simp; done) | (simp; omega)))).setCell (by first | (simp; done) | (simp; omega)) _).setCell (by first | (simp; done) | (simp; omega)) _)⟩
    (simp [results, Try.results19, go_sem, hc1, l0, l1])

set_option maxHeartbeats 2000000 in
theorem bounds_ses (s t : Int) (kw : okW 4 s = true) (kt : okT t = true) (w : World) : Calls Try.prog 19 #[iv 4 s, .int .i64 t] w fun e w' => e = .returned (.tuple #[iv 0 0, .bool false]) ∧ Below w.heap.size w w' := by
  have V1 := fun w => wvalid_any 4 s w
  rw [kw] at V1
  have H1 := Lib.hid V1
  clear V1
  go_enter Try.func19, Try.ntmps19
  go_wp2_with fail
  refine (H1.out _).mono ?_
  rintro e w1 ⟨rfl, hb1⟩
  have hz1 := hb1.size
  obtain ⟨hc1, hf1⟩ := bcell hb1
  simp at hz1
  have l0 : w.heap.size < w1.heap.size := by omega
  have l1 : w.heap.size + 1 < w1.heap.size := by omega
  go_wp2_with fail
  refine (tick_any _ _).mono ?_
  rintro e v ⟨rfl, rfl⟩
  rw [kt]
  go_wp2_with fail
  all_goals
    refine bodyPost_ret (v := .tuple #[.agg #[.int .i64 0, .int .i64 0], .bool false]) ?_ rfl ⟨rfl, ((((((Below.refl _ _).alloc (Nat.le_refl _) _).alloc (by first | (simp; done) | (simp; omega)) _).trans (hb1.mono (by first | (simp; done) | (simp; omega)))).setCell (by first | (simp; done) | (simp; omega)) _).setCell (by first | (simp; done) | (simp; omega)) _)⟩
    (simp [results, Try.results19, go_sem, hc1, l0, l1])

set_option maxHeartbeats 2000000 in
theorem bounds_not (k s t : Int) (kw : okW k s = true) (kt : okT t = false) (w : World) : Calls Try.prog 19 #[iv k s, .int .i64 t] w fun e w' => e = .returned (.tuple #[iv 0 0, .bool false]) ∧ Below w.heap.size w w' := by
  have V1 := fun w => wvalid_any k s w
  rw [kw] at V1
  have H1 := Lib.hid V1
  clear V1
  go_enter Try.func19, Try.ntmps19
  go_wp2_with fail
  refine (H1.out _).mono ?_
  rintro e w1 ⟨rfl, hb1⟩
  have hz1 := hb1.size
  obtain ⟨hc1, hf1⟩ := bcell hb1
  simp at hz1
  have l0 : w.heap.size < w1.heap.size := by omega
  have l1 : w.heap.size + 1 < w1.heap.size := by omega
  go_wp2_with fail
  refine (tick_any _ _).mono ?_
  rintro e v ⟨rfl, rfl⟩
  rw [kt]
  go_wp2_with fail
  all_goals
    refine bodyPost_ret (v := .tuple #[.agg #[.int .i64 0, .int .i64 0], .bool false]) ?_ rfl ⟨rfl, ((((((Below.refl _ _).alloc (Nat.le_refl _) _).alloc (by first | (simp; done) | (simp; omega)) _).trans (hb1.mono (by first | (simp; done) | (simp; omega)))).setCell (by first | (simp; done) | (simp; omega)) _).setCell (by first | (simp; done) | (simp; omega)) _)⟩
    (simp [results, Try.results19, go_sem, hc1, l0, l1])

set_option maxHeartbeats 2000000 in
theorem bounds_all (s t : Int) (kw : okW 1 s = true) (kt : okT t = true) (w : World) : Calls Try.prog 19 #[iv 1 s, .int .i64 t] w fun e w' => e = .returned (.tuple #[iv 0 t, .bool true]) ∧ Below w.heap.size w w' := by
  have V1 := fun w => wvalid_any 1 s w
  rw [kw] at V1
  have H1 := Lib.hid V1
  clear V1
  go_enter Try.func19, Try.ntmps19
  go_wp2_with fail
  refine (H1.out _).mono ?_
  rintro e w1 ⟨rfl, hb1⟩
  have hz1 := hb1.size
  obtain ⟨hc1, hf1⟩ := bcell hb1
  simp at hz1
  have l0 : w.heap.size < w1.heap.size := by omega
  have l1 : w.heap.size + 1 < w1.heap.size := by omega
  go_wp2_with fail
  refine (tick_any _ _).mono ?_
  rintro e v ⟨rfl, rfl⟩
  rw [kt]
  go_wp2_with fail
  all_goals
    refine bodyPost_ret (v := .tuple #[.agg #[.int .i64 0, .int .i64 t], .bool true]) ?_ rfl ⟨rfl, ((((((Below.refl _ _).alloc (Nat.le_refl _) _).alloc (by first | (simp; done) | (simp; omega)) _).trans (hb1.mono (by first | (simp; done) | (simp; omega)))).setCell (by first | (simp; done) | (simp; omega)) _).setCell (by first | (simp; done) | (simp; omega)) _)⟩
    (simp [results, Try.results19, go_sem, hc1, l0, l1])

set_option maxHeartbeats 2000000 in
theorem bounds_sli (s t : Int) (kw : okW 2 s = true) (kt : okT t = true) (w : World) : Calls Try.prog 19 #[iv 2 s, .int .i64 t] w fun e w' => e = .returned (.tuple #[iv (max 0 (t - s + 1)) t, .bool true]) ∧ Below w.heap.size w w' := by
  have V1 := fun w => wvalid_any 2 s w
  rw [kw] at V1
  have H1 := Lib.hid V1
  clear V1
  have ws := okW_yes kw
  have ts := okT_yes kt
  have ws1 : 1 ≤ s := by omega
  have ws2 : s ≤ 1099511627776 := by omega
  have ts1 := ts.1
  have ts2 := ts.2
  clear ws ts
  go_enter Try.func19, Try.ntmps19
  go_wp2_with fail
  refine (H1.out _).mono ?_
  rintro e w1 ⟨rfl, hb1⟩
  have hz1 := hb1.size
  obtain ⟨hc1, hf1⟩ := bcell hb1
  simp at hz1
  have l0 : w.heap.size < w1.heap.size := by omega
  have l1 : w.heap.size + 1 < w1.heap.size := by omega
  go_wp2_with fail
  refine (tick_any _ _).mono ?_
  rintro e v ⟨rfl, rfl⟩
  rw [kt]
  go_wp2_with fail
  all_goals
    refine bodyPost_ret (v := .tuple #[.agg #[.int .i64 (max 0 (t - s + 1)), .int .i64 t], .bool true]) ?_ rfl ⟨rfl, ((((((Below.refl _ _).alloc (Nat.le_refl _) _).alloc (by first | (simp; done) | (simp; omega)) _).trans (hb1.mono (by first | (simp; done) | (simp; omega)))).setCell (by first | (simp; done) | (simp; omega)) _).setCell (by first | (simp; done) | (simp; omega)) _)⟩
    (simp [results, Try.results19, go_sem, hc1, l0, l1]) <;> omega

set_option maxHeartbeats 2000000 in
theorem bounds_tum (s t : Int) (kw : okW 3 s = true) (kt : okT t = true) (w : World) : Calls Try.prog 19 #[iv 3 s, .int .i64 t] w fun e w' => e = .returned (.tuple #[iv (t / s * s) t, .bool true]) ∧ Below w.heap.size w w' := by
  have V1 := fun w => wvalid_any 3 s w
  rw [kw] at V1
  have H1 := Lib.hid V1
  clear V1
  have ws := okW_yes kw
  have ts := okT_yes kt
  have ws1 : 1 ≤ s := by omega
  have ws2 : s ≤ 1099511627776 := by omega
  have ts1 := ts.1
  have ts2 := ts.2
  clear ws ts
  have es : (s == 0) = false := by simp; omega
  have es2 : ¬ s = 0 := by omega
  have tm := tum s t ws1 ts1
  have b1 := tm.1
  have b2 := tm.2.1
  have b3 := tm.2.2.1
  have b4 := tm.2.2.2.1
  have b5 := tm.2.2.2.2.1
  have b6 := tm.2.2.2.2.2.1
  clear tm
  go_enter Try.func19, Try.ntmps19
  go_wp2_with fail
  refine (H1.out _).mono ?_
  rintro e w1 ⟨rfl, hb1⟩
  have hz1 := hb1.size
  obtain ⟨hc1, hf1⟩ := bcell hb1
  simp at hz1
  have l0 : w.heap.size < w1.heap.size := by omega
  have l1 : w.heap.size + 1 < w1.heap.size := by omega
  go_wp2_with fail
  refine (tick_any _ _).mono ?_
  rintro e v ⟨rfl, rfl⟩
  rw [kt]
  go_wp2_with fail
  go_region
  go_wp2_with fail
  all_goals
    refine bodyPost_ret (v := .tuple #[.agg #[.int .i64 (t / s * s), .int .i64 t], .bool true]) ?_ rfl ⟨rfl, ((((((Below.refl _ _).alloc (Nat.le_refl _) _).alloc (by first | (simp; done) | (simp; omega)) _).trans (hb1.mono (by first | (simp; done) | (simp; omega)))).setCell (by first | (simp; done) | (simp; omega)) _).setCell (by first | (simp; done) | (simp; omega)) _).drew⟩
    (simp [results, Try.results19, go_sem, hc1, l0, l1])

set_option maxHeartbeats 2000000 in
theorem rbounds_bad (k s t : Int) (kw : okW k s = false) (w : World) : Calls Try.prog 20 #[iv k s, .int .i64 t] w fun e w' => e = .returned (.tuple #[iv 0 0, .bool false]) ∧ Below w.heap.size w w' := by
  have V1 := fun w => rwindow_any k s w
  rw [kw] at V1
  have H1 := Lib.hid V1
  clear V1
  go_enter Try.func20, Try.ntmps20
  go_wp2_with fail
  refine (H1.out _).mono ?_
  rintro e w1 ⟨rfl, hb1⟩
  have hz1 := hb1.size
  obtain ⟨hc1, hf1⟩ := bcell hb1
  simp at hz1
  have l0 : w.heap.size < w1.heap.size := by omega
  have l1 : w.heap.size + 1 < w1.heap.size := by omega
  go_wp2_with fail
  all_goals
    refine bodyPost_ret (v := .tuple #[.agg #[.int .i64 0, .int .i64 0], .bool false]) ?_ rfl ⟨rfl, ((((((Below.refl _ _).alloc (Nat.le_refl _) _).alloc (by first | (simp; done) | (simp; omega)) _).trans (hb1.mono (by first | (simp; done) | (simp; omega)))).setCell (by first | (simp; done) | (simp; omega)) _).setCell (by first | (simp; done) | (simp; omega)) _)⟩
    (simp [results, Try.results20, go_sem, hc1, l0, l1])

set_option maxHeartbeats 2000000 in
theorem rbounds_ses (s t : Int) (kw : okW 4 s = true) (w : World) : Calls Try.prog 20 #[iv 4 s, .int .i64 t] w fun e w' => e = .returned (.tuple #[iv 0 0, .bool false]) ∧ Below w.heap.size w w' := by
  have V1 := fun w => rwindow_any 4 s w
  rw [kw] at V1
  have H1 := Lib.hid V1
  clear V1
  go_enter Try.func20, Try.ntmps20
  go_wp2_with fail
  refine (H1.out _).mono ?_
  rintro e w1 ⟨rfl, hb1⟩
  have hz1 := hb1.size
  obtain ⟨hc1, hf1⟩ := bcell hb1
  simp at hz1
  have l0 : w.heap.size < w1.heap.size := by omega
  have l1 : w.heap.size + 1 < w1.heap.size := by omega
  go_wp2_with fail
  all_goals
    refine bodyPost_ret (v := .tuple #[.agg #[.int .i64 0, .int .i64 0], .bool false]) ?_ rfl ⟨rfl, ((((((Below.refl _ _).alloc (Nat.le_refl _) _).alloc (by first | (simp; done) | (simp; omega)) _).trans (hb1.mono (by first | (simp; done) | (simp; omega)))).setCell (by first | (simp; done) | (simp; omega)) _).setCell (by first | (simp; done) | (simp; omega)) _)⟩
    (simp [results, Try.results20, go_sem, hc1, l0, l1])

set_option maxHeartbeats 2000000 in
theorem rbounds_not (k s t : Int) (kw : okW k s = true) (kt : okT t = false) (k4 : k ≠ 4) (w : World) : Calls Try.prog 20 #[iv k s, .int .i64 t] w fun e w' => e = .returned (.tuple #[iv 0 0, .bool false]) ∧ Below w.heap.size w w' := by
  have V1 := fun w => rwindow_any k s w
  rw [kw] at V1
  have H1 := Lib.hid V1
  clear V1
  have e4 : (k == 4) = false := by simp; omega
  go_enter Try.func20, Try.ntmps20
  go_wp2_with fail
  refine (H1.out _).mono ?_
  rintro e w1 ⟨rfl, hb1⟩
  have hz1 := hb1.size
  obtain ⟨hc1, hf1⟩ := bcell hb1
  simp at hz1
  have l0 : w.heap.size < w1.heap.size := by omega
  have l1 : w.heap.size + 1 < w1.heap.size := by omega
  go_wp2_with fail
  refine (rtick_any _ _).mono ?_
  rintro e v ⟨rfl, rfl⟩
  rw [kt]
  go_wp2_with fail
  all_goals
    refine bodyPost_ret (v := .tuple #[.agg #[.int .i64 0, .int .i64 0], .bool false]) ?_ rfl ⟨rfl, ((((((Below.refl _ _).alloc (Nat.le_refl _) _).alloc (by first | (simp; done) | (simp; omega)) _).trans (hb1.mono (by first | (simp; done) | (simp; omega)))).setCell (by first | (simp; done) | (simp; omega)) _).setCell (by first | (simp; done) | (simp; omega)) _)⟩
    (simp [results, Try.results20, go_sem, hc1, l0, l1])

set_option maxHeartbeats 2000000 in
theorem rbounds_all (s t : Int) (kw : okW 1 s = true) (kt : okT t = true) (w : World) : Calls Try.prog 20 #[iv 1 s, .int .i64 t] w fun e w' => e = .returned (.tuple #[iv 0 t, .bool true]) ∧ Below w.heap.size w w' := by
  have V1 := fun w => rwindow_any 1 s w
  rw [kw] at V1
  have H1 := Lib.hid V1
  clear V1
  go_enter Try.func20, Try.ntmps20
  go_wp2_with fail
  refine (H1.out _).mono ?_
  rintro e w1 ⟨rfl, hb1⟩
  have hz1 := hb1.size
  obtain ⟨hc1, hf1⟩ := bcell hb1
  simp at hz1
  have l0 : w.heap.size < w1.heap.size := by omega
  have l1 : w.heap.size + 1 < w1.heap.size := by omega
  go_wp2_with fail
  refine (rtick_any _ _).mono ?_
  rintro e v ⟨rfl, rfl⟩
  rw [kt]
  go_wp2_with fail
  all_goals
    refine bodyPost_ret (v := .tuple #[.agg #[.int .i64 0, .int .i64 t], .bool true]) ?_ rfl ⟨rfl, ((((((Below.refl _ _).alloc (Nat.le_refl _) _).alloc (by first | (simp; done) | (simp; omega)) _).trans (hb1.mono (by first | (simp; done) | (simp; omega)))).setCell (by first | (simp; done) | (simp; omega)) _).setCell (by first | (simp; done) | (simp; omega)) _)⟩
    (simp [results, Try.results20, go_sem, hc1, l0, l1])

set_option maxHeartbeats 2000000 in
theorem rbounds_sli (s t : Int) (kw : okW 2 s = true) (kt : okT t = true) (w : World) : Calls Try.prog 20 #[iv 2 s, .int .i64 t] w fun e w' => e = .returned (.tuple #[iv (max 0 (t - s + 1)) t, .bool true]) ∧ Below w.heap.size w w' := by
  have V1 := fun w => rwindow_any 2 s w
  rw [kw] at V1
  have H1 := Lib.hid V1
  clear V1
  have ws := okW_yes kw
  have ts := okT_yes kt
  have ws1 : 1 ≤ s := by omega
  have ws2 : s ≤ 1099511627776 := by omega
  have ts1 := ts.1
  have ts2 := ts.2
  clear ws ts
  go_enter Try.func20, Try.ntmps20
  go_wp2_with fail
  refine (H1.out _).mono ?_
  rintro e w1 ⟨rfl, hb1⟩
  have hz1 := hb1.size
  obtain ⟨hc1, hf1⟩ := bcell hb1
  simp at hz1
  have l0 : w.heap.size < w1.heap.size := by omega
  have l1 : w.heap.size + 1 < w1.heap.size := by omega
  go_wp2_with fail
  refine (rtick_any _ _).mono ?_
  rintro e v ⟨rfl, rfl⟩
  rw [kt]
  go_wp2_with fail
  all_goals
    refine bodyPost_ret (v := .tuple #[.agg #[.int .i64 (max 0 (t - s + 1)), .int .i64 t], .bool true]) ?_ rfl ⟨rfl, ((((((Below.refl _ _).alloc (Nat.le_refl _) _).alloc (by first | (simp; done) | (simp; omega)) _).trans (hb1.mono (by first | (simp; done) | (simp; omega)))).setCell (by first | (simp; done) | (simp; omega)) _).setCell (by first | (simp; done) | (simp; omega)) _)⟩
    (simp [results, Try.results20, go_sem, hc1, l0, l1]) <;> omega

set_option maxHeartbeats 2000000 in
theorem rbounds_tum (s t : Int) (kw : okW 3 s = true) (kt : okT t = true) (w : World) : Calls Try.prog 20 #[iv 3 s, .int .i64 t] w fun e w' => e = .returned (.tuple #[iv (t - t % s) t, .bool true]) ∧ Below w.heap.size w w' := by
  have V1 := fun w => rwindow_any 3 s w
  rw [kw] at V1
  have H1 := Lib.hid V1
  clear V1
  have ws := okW_yes kw
  have ts := okT_yes kt
  have ws1 : 1 ≤ s := by omega
  have ws2 : s ≤ 1099511627776 := by omega
  have ts1 := ts.1
  have ts2 := ts.2
  clear ws ts
  have es : (s == 0) = false := by simp; omega
  have es2 : ¬ s = 0 := by omega
  have tm := tum s t ws1 ts1
  have b1 := tm.1
  have b2 := tm.2.1
  have b3 := tm.2.2.1
  have b4 := tm.2.2.2.1
  have b5 := tm.2.2.2.2.1
  have b6 := tm.2.2.2.2.2.1
  clear tm
  go_enter Try.func20, Try.ntmps20
  go_wp2_with fail
  refine (H1.out _).mono ?_
  rintro e w1 ⟨rfl, hb1⟩
  have hz1 := hb1.size
  obtain ⟨hc1, hf1⟩ := bcell hb1
  simp at hz1
  have l0 : w.heap.size < w1.heap.size := by omega
  have l1 : w.heap.size + 1 < w1.heap.size := by omega
  go_wp2_with fail
  refine (rtick_any _ _).mono ?_
  rintro e v ⟨rfl, rfl⟩
  rw [kt]
  go_wp2_with fail
  all_goals
    refine bodyPost_ret (v := .tuple #[.agg #[.int .i64 (t - t % s), .int .i64 t], .bool true]) ?_ rfl ⟨rfl, ((((((Below.refl _ _).alloc (Nat.le_refl _) _).alloc (by first | (simp; done) | (simp; omega)) _).trans (hb1.mono (by first | (simp; done) | (simp; omega)))).setCell (by first | (simp; done) | (simp; omega)) _).setCell (by first | (simp; done) | (simp; omega)) _)⟩
    (simp [results, Try.results20, go_sem, hc1, l0, l1])

end Go.Proofs.Ytolkmfpbgheaaaa
