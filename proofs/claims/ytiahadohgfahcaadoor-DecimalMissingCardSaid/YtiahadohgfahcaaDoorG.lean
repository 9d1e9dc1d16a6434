import Derived.Test.YtiahadohgfahcaaDoorE
import Derived.Test.YtiahadohgfahcaaDoorShelf
import Derived.Sort.Grow
namespace Go.Proofs.YtiahadohgfahcaaDoor
open Go.ChangeShapes Go.WideShapes Go.ChangeAt Go.RowKit Go.Sort
set_option linter.unusedVariables false

/-- The tables as they are laid. -/
def Tabs (w : World) : Prop := Lib.TabIs Tryd.prog w "internal/strconv.uint64pow10" .u64 Lib.pow10Tab ∧ Tens w

theorem below_grown_own (B : Nat) (w : World) (q : Nat) (os : Array Obj) (hB : B ≤ w.heap.size) : RowKit.Below B w (grow (w.drewN q) os) :=
  ⟨rfl, rfl, rfl, by first | (simp [grow]; done) | (simp [grow]; omega), fun i hi => by
    show ((w.drewN q).heap ++ os)[i]? = _
    rw [Array.getElem?_append_left (by show i < w.heap.size; omega)]
    rfl⟩
theorem itoa_7 (w : World) : Calls Tryd.prog 33 #[.int .i64 7] w fun e w' => e = .returned (.string ⟨#[55]⟩) ∧ w' = w := by
  have h := Tryd.strconv_Itoa_small 7 (by decide) w
  rw [show Lib.decDigits 7 = [55] from by decide +kernel] at h
  exact h
theorem itoa_0 (w : World) : Calls Tryd.prog 33 #[.int .i64 0] w fun e w' => e = .returned (.string ⟨#[48]⟩) ∧ w' = w := by
  have h := Tryd.strconv_Itoa_small 0 (by decide) w
  rw [show Lib.decDigits 0 = [48] from by decide +kernel] at h
  exact h
theorem itoa_neg (w : World) (h : Lib.TabIs Tryd.prog w "internal/strconv.uint64pow10" .u64 Lib.pow10Tab) : Calls Tryd.prog 33 #[.int .i64 (-2500000)] w fun e w' => e = .returned (.string ⟨#[45, 50, 53, 48, 48, 48, 48, 48]⟩) ∧ Below w.heap.size w w' := by
  refine (Tryd.strconv_Itoa (-2500000) (by decide) (by decide) w h).mono ?_
  rintro e w' ⟨rfl, k, os, rfl⟩
  refine ⟨?_, below_grown_own _ _ _ _ (Nat.le_refl _)⟩
  rw [show Lib.itoa (-2500000) = [45, 50, 53, 48, 48, 48, 48, 48] from by decide +kernel]

@[go_sem] theorem lit_cutF : (ByteArray.mk #[45, 50, 53, 48, 48, 48, 48, 48]).extract 1 8 = ByteArray.mk #[50, 53, 48, 48, 48, 48, 48] := by decide +kernel
@[go_sem] theorem lit_cutF1 : (ByteArray.mk #[50, 53, 48, 48, 48, 48, 48]).extract 0 1 = ByteArray.mk #[50] := by decide +kernel
@[go_sem] theorem lit_cutF2 : (ByteArray.mk #[50, 53, 48, 48, 48, 48, 48]).extract 1 7 = ByteArray.mk #[53, 48, 48, 48, 48, 48] := by decide +kernel
@[go_sem] theorem lit_cutF3 : (ByteArray.mk #[48, 48, 48, 48, 48, 48, 55]).extract 0 1 = ByteArray.mk #[48] := by decide +kernel
@[go_sem] theorem lit_cutF4 : (ByteArray.mk #[48, 48, 48, 48, 48, 48, 55]).extract 1 7 = ByteArray.mk #[48, 48, 48, 48, 48, 55] := by decide +kernel
@[go_sem] theorem lit_cutF5 : (ByteArray.mk #[48, 48, 48, 48, 48, 48, 48]).extract 0 1 = ByteArray.mk #[48] := by decide +kernel
@[go_sem] theorem lit_cutF6 : (ByteArray.mk #[48, 48, 48, 48, 48, 48, 48]).extract 1 7 = ByteArray.mk #[48, 48, 48, 48, 48, 48] := by decide +kernel
@[go_sem] theorem lit_app (a b : Array UInt8) : ByteArray.mk a ++ ByteArray.mk b = ByteArray.mk (a ++ b) := by
  rw [ByteArray.ext_iff]; simp

set_option maxHeartbeats 4000000 in
theorem format_0 (w : World) : Calls Tryd.prog 29 #[.int .i64 0] w fun e w' => e = .returned (.string ⟨#[48, 46, 48, 48, 48, 48, 48, 48]⟩) ∧ Below w.heap.size w w' := by
  go_enter Tryd.func29, Tryd.ntmps29
  go_wp2_with (go_at_call 33; refine (itoa_0 _).mono ?_; rintro e w' ⟨rfl, rfl⟩)
  go_rounds 7
  go_quiet (fail)
  go_wp2
  go_ret
  exact ⟨rfl, below_drewN (Below.refl _ _) _⟩

set_option maxHeartbeats 4000000 in
theorem format_7 (w : World) : Calls Tryd.prog 29 #[.int .i64 7] w fun e w' => e = .returned (.string ⟨#[48, 46, 48, 48, 48, 48, 48, 55]⟩) ∧ Below w.heap.size w w' := by
  go_enter Tryd.func29, Tryd.ntmps29
  go_wp2_with (go_at_call 33; refine (itoa_7 _).mono ?_; rintro e w' ⟨rfl, rfl⟩)
  go_rounds 7
  go_quiet (fail)
  go_wp2
  go_ret
  exact ⟨rfl, below_drewN (Below.refl _ _) _⟩

set_option maxHeartbeats 4000000 in
theorem format_neg (w : World) (h : Lib.TabIs Tryd.prog w "internal/strconv.uint64pow10" .u64 Lib.pow10Tab) : Calls Tryd.prog 29 #[.int .i64 (-2500000)] w fun e w' => e = .returned (.string ⟨#[45, 50, 46, 53, 48, 48, 48, 48, 48]⟩) ∧ Below w.heap.size w w' := by
  have HI := Lib.hid (itoa_neg w h)
  clear h
  go_enter Tryd.func29, Tryd.ntmps29
  go_wp2_with fail
  refine HI.out.mono ?_
  rintro e w1 ⟨rfl, hb1⟩
  go_wp2_with fail
  go_quiet (fail)
  go_wp2
  go_rounds 1
  go_quiet (fail)
  go_wp2
  go_ret
  exact ⟨rfl, below_drewN (below_drewN hb1 _) _⟩

/-- What is laid stays laid. -/
theorem Tabs.below {w w' : World} (h : Tabs w) (hb : Below w.heap.size w w') : Tabs w' := by
  obtain ⟨h1, h2⟩ := h
  constructor
  · unfold Lib.TabIs at *
    simp only [World.var?, show Tryd.prog.globalNamed "internal/strconv.uint64pow10" = some 3 from by kernel_rfl, Option.bind_some] at *
    have hlt : 3 < w.heap.size := by
      apply Classical.byContradiction
      intro k
      rw [Array.getElem?_eq_none (by omega)] at h1
      cases h1
    rw [hb.block 3 hlt]
    exact h1
  · obtain ⟨t0, t1, t2, t3, t4, t5, t6⟩ := h2
    have hlt := World.block_lt_of_cell? _ _ t0
    have hc : ∀ o, w'.cell? ⟨0, o, none⟩ = w.cell? ⟨0, o, none⟩ := fun o => hb.cell (p := ⟨0, o, none⟩) hlt
    exact ⟨by rw [hc]; exact t0, by rw [hc]; exact t1, by rw [hc]; exact t2, by rw [hc]; exact t3, by rw [hc]; exact t4, by rw [hc]; exact t5, by rw [hc]; exact t6⟩
end Go.Proofs.YtiahadohgfahcaaDoor
