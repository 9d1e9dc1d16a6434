import Derived.Test.YtiahadohgfahcaaDoorJ
import Derived.Test.YtiahadohgfahcaaDoorK
namespace Go.Proofs.YtiahadohgfahcaaDoor
open Go.ChangeShapes Go.WideShapes Go.ChangeAt Go.RowKit Go.Sort
set_option linter.unusedVariables false

theorem is_same (x : Int) (p : Bool) (w : World) : Calls Tryd.prog 10 #[.int .i64 x, .bool p, .int .i64 x, .bool p] w fun e w' => e = .returned (.bool true) ∧ w = w' := by
  have h := is_any x x p p w
  rw [show (decide (x = x) && (p == p)) = true by simp] at h
  exact h

theorem sums_walk (a b : Int) (a1 : -9223372036854775808 ≤ a) (a2 : a ≤ 9223372036854775807) (b1 : -9223372036854775808 ≤ b) (b2 : b ≤ 9223372036854775807) (w : World) (h : Tabs w) :
    Calls Tryd.prog 3 #[.int .i64 a, .int .i64 b] w fun e w' => e = .returned (.bool true) ∧ Below w.heap.size w w' := by
  have HE := Lib.hid (example_any w h)
  have F := fun w => from_any a w a1 a2
  have RF := fun w => refFrom_any a w a1 a2
  have T := fun w => toInt_any a w a1 a2
  have RT := fun w => refToInt_any a w a1 a2
  have A := fun w => add_any a b w a1 a2 b1 b2
  have RA := fun w => refAdd_any a b w a1 a2 b1 b2
  have S := fun w => sub_any a b w a1 a2 b1 b2
  have RS := fun w => refSub_any a b w a1 a2 b1 b2
  generalize fromR a = f at *
  generalize addR a b = g at *
  generalize subR a b = s at *
  generalize toR a = t at *
  obtain ⟨fx, fp⟩ := f
  obtain ⟨gx, gp⟩ := g
  obtain ⟨sx, sp⟩ := s
  simp only [pr] at F RF A RA S RS
  have HF := Lib.hid F; clear F
  have HRF := Lib.hid RF; clear RF
  have HT := Lib.hid T; clear T
  have HRT := Lib.hid RT; clear RT
  have HA := Lib.hid A; clear A
  have HRA := Lib.hid RA; clear RA
  have HS := Lib.hid S; clear S
  have HRS := Lib.hid RS; clear RS
  clear h
  go_enter Tryd.func3, Tryd.ntmps3
  go_wp2_with fail
  refine HE.out.mono ?_
  rintro e w1 ⟨rfl, hb1⟩
  go_wp2_with fail
  refine (HF.out _).mono ?_
  rintro e v ⟨rfl, rfl⟩
  go_wp2_with fail
  refine (HRF.out _).mono ?_
  rintro e v ⟨rfl, rfl⟩
  go_wp2_with fail
  refine (is_same _ _ _).mono ?_
  rintro e v ⟨rfl, rfl⟩
  go_wp2_with fail
  refine (HT.out _).mono ?_
  rintro e v ⟨rfl, rfl⟩
  go_wp2_with fail
  refine (HRT.out _).mono ?_
  rintro e v ⟨rfl, rfl⟩
  go_wp2_with fail
  refine (HA.out _).mono ?_
  rintro e v ⟨rfl, rfl⟩
  go_wp2_with fail
  refine (HRA.out _).mono ?_
  rintro e v ⟨rfl, rfl⟩
  go_wp2_with fail
  refine (is_same _ _ _).mono ?_
  rintro e v ⟨rfl, rfl⟩
  go_wp2_with fail
  refine (HS.out _).mono ?_
  rintro e v ⟨rfl, rfl⟩
  go_wp2_with fail
  refine (HRS.out _).mono ?_
  rintro e v ⟨rfl, rfl⟩
  go_wp2_with fail
  refine (is_same _ _ _).mono ?_
  rintro e v ⟨rfl, rfl⟩
  go_wp2_with fail
  go_ret
  exact ⟨rfl, hb1⟩
end Go.Proofs.YtiahadohgfahcaaDoor
