import Derived.Test.YtiahadohgfahcaaDoorA
import Derived.Handy
namespace Go.Proofs.YtiahadohgfahcaaDoor
open Go.ChangeShapes Go.WideShapes Go.ChangeAt Go.RowKit
set_option linter.unusedVariables false
@[go_sem] theorem lit_get (a : Array UInt8) (i : Nat) (h : i < (ByteArray.mk a).size) : ((ByteArray.mk a)[i]'h).toNat = (a[i]'h).toNat := rfl
@[go_sem] theorem lit_size (a : Array UInt8) : (ByteArray.mk a).size = a.size := rfl

/-- decimal.tens as it is laid. -/
def Tens (w : World) : Prop := w.cell? ⟨0, 0, none⟩ = some (.int .i64 1) ∧ w.cell? ⟨0, 1, none⟩ = some (.int .i64 10) ∧ w.cell? ⟨0, 2, none⟩ = some (.int .i64 100) ∧ w.cell? ⟨0, 3, none⟩ = some (.int .i64 1000) ∧ w.cell? ⟨0, 4, none⟩ = some (.int .i64 10000) ∧ w.cell? ⟨0, 5, none⟩ = some (.int .i64 100000) ∧ w.cell? ⟨0, 6, none⟩ = some (.int .i64 1000000)

@[go_sem] theorem lit_cut1 : (ByteArray.mk #[45, 50, 46, 53]).extract 1 4 = ByteArray.mk #[50, 46, 53] := by decide +kernel
set_option maxHeartbeats 40000000 in
theorem parse_1 (w : World) (hT : Tens w) : Calls Tryd.prog 28 #[.string ⟨#[45, 50, 46, 53]⟩] w fun e w' => e = .returned (.tuple #[.int .i64 (-2500000), .int .i64 0]) ∧ w = w' := by
  obtain ⟨t0, t1, t2, t3, t4, t5, t6⟩ := hT
  go_enter Tryd.func28, Tryd.ntmps28
  go_wp2
  go_step3
  go_wp2
  go_step3
  go_wp2
  go_rounds 4
  all_goals
    try rw [Exit.noGoto_ret]
    go_ret2
    exact ⟨rfl, rfl⟩

set_option maxHeartbeats 40000000 in
theorem parse_2 (w : World) (hT : Tens w) : Calls Tryd.prog 28 #[.string ⟨#[49, 49, 53, 50, 57, 50, 49, 53, 48, 52, 54, 48, 54, 46, 56, 52, 54, 57, 55, 54]⟩] w fun e w' => e = .returned (.tuple #[.int .i64 1152921504606846976, .int .i64 0]) ∧ w = w' := by
  obtain ⟨t0, t1, t2, t3, t4, t5, t6⟩ := hT
  go_enter Tryd.func28, Tryd.ntmps28
  go_wp2
  go_step3
  go_wp2
  go_step3
  go_wp2
  go_rounds 21
  all_goals
    try rw [Exit.noGoto_ret]
    go_ret2
    exact ⟨rfl, rfl⟩

set_option maxHeartbeats 40000000 in
theorem parse_3 (w : World) (hT : Tens w) : Calls Tryd.prog 28 #[.string ⟨#[49, 49, 53, 50, 57, 50, 49, 53, 48, 52, 54, 48, 54, 46, 56, 52, 54, 57, 55, 55]⟩] w fun e w' => e = .returned (.tuple #[.int .i64 0, .int .i64 2]) ∧ w = w' := by
  obtain ⟨t0, t1, t2, t3, t4, t5, t6⟩ := hT
  go_enter Tryd.func28, Tryd.ntmps28
  go_wp2
  go_step3
  go_wp2
  go_step3
  go_wp2
  go_rounds 21
  all_goals
    try rw [Exit.noGoto_ret]
    go_ret2
    exact ⟨rfl, rfl⟩

set_option maxHeartbeats 40000000 in
theorem parse_4 (w : World) (hT : Tens w) : Calls Tryd.prog 28 #[.string ⟨#[49, 46]⟩] w fun e w' => e = .returned (.tuple #[.int .i64 0, .int .i64 3]) ∧ w = w' := by
  obtain ⟨t0, t1, t2, t3, t4, t5, t6⟩ := hT
  go_enter Tryd.func28, Tryd.ntmps28
  go_wp2
  go_step3
  go_wp2
  go_step3
  go_wp2
  go_rounds 3
  all_goals
    try rw [Exit.noGoto_ret]
    go_ret2
    exact ⟨rfl, rfl⟩

@[go_sem] theorem lit_cut5 : (ByteArray.mk #[45, 48]).extract 1 2 = ByteArray.mk #[48] := by decide +kernel
set_option maxHeartbeats 40000000 in
theorem parse_5 (w : World) (hT : Tens w) : Calls Tryd.prog 28 #[.string ⟨#[45, 48]⟩] w fun e w' => e = .returned (.tuple #[.int .i64 0, .int .i64 0]) ∧ w = w' := by
  obtain ⟨t0, t1, t2, t3, t4, t5, t6⟩ := hT
  go_enter Tryd.func28, Tryd.ntmps28
  go_wp2
  go_step3
  go_wp2
  go_step3
  go_wp2
  go_rounds 2
  all_goals
    try rw [Exit.noGoto_ret]
    go_ret2
    exact ⟨rfl, rfl⟩

end Go.Proofs.YtiahadohgfahcaaDoor
