import Derived.Test.YtiahadohgfahcaaDoorH
import Derived.Test.YtiahadohgfahcaaDoorI
namespace Go.Proofs.YtiahadohgfahcaaDoor
open Go.ChangeShapes Go.WideShapes Go.ChangeAt Go.RowKit Go.Sort
set_option linter.unusedVariables false

theorem exa1 (w : World) : Calls Tryd.prog 8 #[.int .i64 1152921504606] w fun e w' => e = .returned (.tuple #[.int .i64 1152921504606000000, .bool true]) ∧ w = w' := by
  have h := from_any 1152921504606 w (by decide) (by decide)
  rw [show fromR 1152921504606 = (1152921504606000000, true) from by decide +kernel] at h
  exact h
theorem exa2 (w : World) : Calls Tryd.prog 8 #[.int .i64 1152921504607] w fun e w' => e = .returned (.tuple #[.int .i64 0, .bool false]) ∧ w = w' := by
  have h := from_any 1152921504607 w (by decide) (by decide)
  rw [show fromR 1152921504607 = (0, false) from by decide +kernel] at h
  exact h
theorem exa5 (w : World) : Calls Tryd.prog 11 #[.int .i64 2500000] w fun e w' => e = .returned (.int .i64 2) ∧ w = w' := by
  have h := toInt_any 2500000 w (by decide) (by decide)
  rw [show toR 2500000 = 2 from by decide +kernel] at h
  exact h
theorem exa6 (w : World) : Calls Tryd.prog 11 #[.int .i64 3500000] w fun e w' => e = .returned (.int .i64 4) ∧ w = w' := by
  have h := toInt_any 3500000 w (by decide) (by decide)
  rw [show toR 3500000 = 4 from by decide +kernel] at h
  exact h
theorem exa7 (w : World) : Calls Tryd.prog 11 #[.int .i64 (-2500001)] w fun e w' => e = .returned (.int .i64 (-3)) ∧ w = w' := by
  have h := toInt_any (-2500001) w (by decide) (by decide)
  rw [show toR (-2500001) = (-3) from by decide +kernel] at h
  exact h
theorem exa8 (w : World) : Calls Tryd.prog 13 #[.int .i64 1500000, .int .i64 (-2000000)] w fun e w' => e = .returned (.tuple #[.int .i64 (-500000), .bool true]) ∧ w = w' := by
  have h := add_any 1500000 (-2000000) w (by decide) (by decide) (by decide) (by decide)
  rw [show addR 1500000 (-2000000) = ((-500000), true) from by decide +kernel] at h
  exact h
theorem exa9 (w : World) : Calls Tryd.prog 13 #[.int .i64 1152921504606846976, .int .i64 1] w fun e w' => e = .returned (.tuple #[.int .i64 0, .bool false]) ∧ w = w' := by
  have h := add_any 1152921504606846976 1 w (by decide) (by decide) (by decide) (by decide)
  rw [show addR 1152921504606846976 1 = (0, false) from by decide +kernel] at h
  exact h
theorem exa12 (w : World) : Calls Tryd.prog 15 #[.int .i64 (-1), .int .i64 1152921504606846976] w fun e w' => e = .returned (.tuple #[.int .i64 0, .bool false]) ∧ w = w' := by
  have h := sub_any (-1) 1152921504606846976 w (by decide) (by decide) (by decide) (by decide)
  rw [show subR (-1) 1152921504606846976 = (0, false) from by decide +kernel] at h
  exact h
theorem exa13 (w : World) : Calls Tryd.prog 17 #[.int .i64 1500000, .int .i64 1500000] w fun e w' => e = .returned (.tuple #[.int .i64 2250000, .bool true]) ∧ Below w.heap.size w w' := by
  have h := mulD_any 1500000 1500000 w (by decide) (by decide) (by decide) (by decide)
  rw [show mulR 1500000 1500000 = (2250000, true) from by decide +kernel] at h
  exact h
theorem exa16 (w : World) : Calls Tryd.prog 17 #[.int .i64 1152921504606846976, .int .i64 1000000] w fun e w' => e = .returned (.tuple #[.int .i64 1152921504606846976, .bool true]) ∧ Below w.heap.size w w' := by
  have h := mulD_any 1152921504606846976 1000000 w (by decide) (by decide) (by decide) (by decide)
  rw [show mulR 1152921504606846976 1000000 = (1152921504606846976, true) from by decide +kernel] at h
  exact h
theorem exa17 (w : World) : Calls Tryd.prog 17 #[.int .i64 1152921504606846976, .int .i64 1000001] w fun e w' => e = .returned (.tuple #[.int .i64 0, .bool false]) ∧ Below w.heap.size w w' := by
  have h := mulD_any 1152921504606846976 1000001 w (by decide) (by decide) (by decide) (by decide)
  rw [show mulR 1152921504606846976 1000001 = (0, false) from by decide +kernel] at h
  exact h
theorem exa20 (w : World) : Calls Tryd.prog 17 #[.int .i64 3, .int .i64 500000] w fun e w' => e = .returned (.tuple #[.int .i64 2, .bool true]) ∧ Below w.heap.size w w' := by
  have h := mulD_any 3 500000 w (by decide) (by decide) (by decide) (by decide)
  rw [show mulR 3 500000 = (2, true) from by decide +kernel] at h
  exact h
theorem exa21 (w : World) : Calls Tryd.prog 18 #[.int .i64 2000000, .int .i64 3000000] w fun e w' => e = .returned (.tuple #[.int .i64 666667, .bool true]) ∧ Below w.heap.size w w' := by
  have h := divD_any 2000000 3000000 w (by decide) (by decide) (by decide) (by decide)
  rw [show divR 2000000 3000000 = (666667, true) from by decide +kernel] at h
  exact h
theorem exa24 (w : World) : Calls Tryd.prog 18 #[.int .i64 3, .int .i64 2000000] w fun e w' => e = .returned (.tuple #[.int .i64 2, .bool true]) ∧ Below w.heap.size w w' := by
  have h := divD_any 3 2000000 w (by decide) (by decide) (by decide) (by decide)
  rw [show divR 3 2000000 = (2, true) from by decide +kernel] at h
  exact h
theorem exa25 (w : World) : Calls Tryd.prog 18 #[.int .i64 1, .int .i64 0] w fun e w' => e = .returned (.tuple #[.int .i64 0, .bool false]) ∧ Below w.heap.size w w' := by
  have h := divD_any 1 0 w (by decide) (by decide) (by decide) (by decide)
  rw [show divR 1 0 = (0, false) from by decide +kernel] at h
  exact h

set_option maxHeartbeats 8000000 in
set_option maxRecDepth 100000 in
theorem example_any (w : World) (h : Tabs w) : Calls Tryd.prog 7 #[] w fun e w' => e = .returned (.bool true) ∧ Below w.heap.size w w' := by
  have HT := Lib.hid h
  clear h
  go_enter Tryd.func7, Tryd.ntmps7
  go_wp2_with fail
  refine (exa1 _).mono ?_
  rintro e v ⟨rfl, rfl⟩
  go_wp2_with fail
  refine (exa2 _).mono ?_
  rintro e v ⟨rfl, rfl⟩
  go_wp2_with fail
  refine (is_any _ _ _ _ _).mono ?_
  rintro e v ⟨rfl, rfl⟩
  go_wp2_with fail
  refine (is_any _ _ _ _ _).mono ?_
  rintro e v ⟨rfl, rfl⟩
  go_wp2_with fail
  refine (exa5 _).mono ?_
  rintro e v ⟨rfl, rfl⟩
  go_wp2_with fail
  refine (exa6 _).mono ?_
  rintro e v ⟨rfl, rfl⟩
  go_wp2_with fail
  refine (exa7 _).mono ?_
  rintro e v ⟨rfl, rfl⟩
  go_wp2_with fail
  refine (exa8 _).mono ?_
  rintro e v ⟨rfl, rfl⟩
  go_wp2_with fail
  refine (exa9 _).mono ?_
  rintro e v ⟨rfl, rfl⟩
  go_wp2_with fail
  refine (is_any _ _ _ _ _).mono ?_
  rintro e v ⟨rfl, rfl⟩
  go_wp2_with fail
  refine (is_any _ _ _ _ _).mono ?_
  rintro e v ⟨rfl, rfl⟩
  go_wp2_with fail
  refine (exa12 _).mono ?_
  rintro e v ⟨rfl, rfl⟩
  go_wp2_with fail
  refine (exa13 _).mono ?_
  rintro e v1 ⟨rfl, hb1⟩
  go_wp2_with fail
  refine (is_any _ _ _ _ _).mono ?_
  rintro e v ⟨rfl, rfl⟩
  go_wp2_with fail
  refine (is_any _ _ _ _ _).mono ?_
  rintro e v ⟨rfl, rfl⟩
  go_wp2_with fail
  refine (exa16 _).mono ?_
  rintro e v2 ⟨rfl, hb2⟩
  go_wp2_with fail
  refine (exa17 _).mono ?_
  rintro e v3 ⟨rfl, hb3⟩
  go_wp2_with fail
  refine (is_any _ _ _ _ _).mono ?_
  rintro e v ⟨rfl, rfl⟩
  go_wp2_with fail
  refine (is_any _ _ _ _ _).mono ?_
  rintro e v ⟨rfl, rfl⟩
  go_wp2_with fail
  refine (exa20 _).mono ?_
  rintro e v4 ⟨rfl, hb4⟩
  go_wp2_with fail
  refine (exa21 _).mono ?_
  rintro e v5 ⟨rfl, hb5⟩
  go_wp2_with fail
  refine (is_any _ _ _ _ _).mono ?_
  rintro e v ⟨rfl, rfl⟩
  go_wp2_with fail
  refine (is_any _ _ _ _ _).mono ?_
  rintro e v ⟨rfl, rfl⟩
  go_wp2_with fail
  refine (exa24 _).mono ?_
  rintro e v6 ⟨rfl, hb6⟩
  go_wp2_with fail
  refine (exa25 _).mono ?_
  rintro e v7 ⟨rfl, hb7⟩
  go_wp2_with fail
  refine (is_any _ _ _ _ _).mono ?_
  rintro e v ⟨rfl, rfl⟩
  go_wp2_with fail
  refine (is_any _ _ _ _ _).mono ?_
  rintro e v ⟨rfl, rfl⟩
  go_wp2_with fail
  have z1 := hb1.size
  have z2 := hb2.size
  have z3 := hb3.size
  have z4 := hb4.size
  have z5 := hb5.size
  have z6 := hb6.size
  have z7 := hb7.size
  have hb := ((((((hb1).trans (hb2.mono (by omega))).trans (hb3.mono (by omega))).trans (hb4.mono (by omega))).trans (hb5.mono (by omega))).trans (hb6.mono (by omega))).trans (hb7.mono (by omega))
  refine (texts_any _ (HT.out.below hb)).mono ?_
  rintro e vt ⟨rfl, hbt⟩
  go_wp2_with fail
  go_ret
  exact ⟨rfl, hb.trans (hbt.mono (by omega))⟩
end Go.Proofs.YtiahadohgfahcaaDoor
