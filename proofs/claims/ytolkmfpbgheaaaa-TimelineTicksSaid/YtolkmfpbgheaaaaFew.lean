/-
  asoflaw06.few returns the first sixty elements.
-/
import Derived.Test.YtolkmfpbgheaaaaPartsWalk
namespace Go.Proofs.Ytolkmfpbgheaaaa
open Go.ChangeShapes Go.WideShapes Go.ChangeAt Go.RowKit
set_option linter.unusedVariables false
set_option linter.unusedSimpArgs false

theorem few_ivs (ao : Option Addr) (n c : Nat) (hc : n ≤ c) (w : World) : Calls Try.prog 12 #[.slice ao n c, .int .i64 60] w fun e w' => e = .returned (.slice ao (min 60 n) c) ∧ w = w' := by
  by_cases h : 60 < n
  · have hcu : ∀ w, (Instr.slice 24 (.slice ao n c) none (some (.int .i64 60)) none).run Try.prog w = .ok (.slice ao 60 c) w := fun w => run_upto (P := Try.prog) 24 23 2 Try.underlying24 size23 ao n c 60 (by omega) w
    have h60 : (60 : Int) < (n : Int) := by omega
    rw [Nat.min_eq_left (by omega)]
    go_enter Try.func12, Try.ntmps12
    go_wp2_with fail
    go_ret
    exact ⟨rfl, rfl⟩
  · have h60 : ¬ (60 : Int) < (n : Int) := by omega
    rw [Nat.min_eq_right (by omega)]
    go_enter Try.func12, Try.ntmps12
    go_wp2_with fail
    go_ret
    exact ⟨rfl, rfl⟩
theorem few_ints (ao : Option Addr) (n c : Nat) (hc : n ≤ c) (w : World) : Calls Try.prog 24 #[.slice ao n c, .int .i64 60] w fun e w' => e = .returned (.slice ao (min 60 n) c) ∧ w = w' := by
  by_cases h : 60 < n
  · have hcu : ∀ w, (Instr.slice 40 (.slice ao n c) none (some (.int .i64 60)) none).run Try.prog w = .ok (.slice ao 60 c) w := fun w => run_upto (P := Try.prog) 40 3 1 Try.underlying40 size3 ao n c 60 (by omega) w
    have h60 : (60 : Int) < (n : Int) := by omega
    rw [Nat.min_eq_left (by omega)]
    go_enter Try.func24, Try.ntmps24
    go_wp2_with fail
    go_ret
    exact ⟨rfl, rfl⟩
  · have h60 : ¬ (60 : Int) < (n : Int) := by omega
    rw [Nat.min_eq_right (by omega)]
    go_enter Try.func24, Try.ntmps24
    go_wp2_with fail
    go_ret
    exact ⟨rfl, rfl⟩
end Go.Proofs.Ytolkmfpbgheaaaa
