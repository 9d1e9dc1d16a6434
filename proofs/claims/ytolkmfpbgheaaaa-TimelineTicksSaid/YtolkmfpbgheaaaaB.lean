import Derived.Test.YtolkmfpbgheaaaaA
namespace Go.Proofs.Ytolkmfpbgheaaaa
open Go.ChangeShapes Go.WideShapes Go.ChangeAt Go.RowKit
set_option linter.unusedVariables false
set_option linter.unusedSimpArgs false

/-- A result and its flag. -/
abbrev ivb (f t : Int) (b : Bool) : Value := .tuple #[iv f t, .bool b]

set_option maxHeartbeats 2000000 in
theorem meet_a (af at' bf bt : Int) (h : okI af at' = false) (w : World) : Calls Try.prog 10 #[iv af at', iv bf bt] w fun e w' => e = .returned (ivb 0 0 false) ∧ Below w.heap.size w w' := by
  have V1 := fun w => check_any af at' w
  simp only [h, if_true, if_false, Bool.false_eq_true] at V1
  have H1 := Lib.hid V1; clear V1
  go_enter Try.func10, Try.ntmps10
  go_wp2_with fail
  refine (H1.out _).mono ?_
  rintro e w1 ⟨rfl, hb1⟩
  have hz1 := hb1.size
  obtain ⟨hc1, hf1⟩ := bcell hb1
  simp at hz1
  have l0 : w.heap.size < w1.heap.size := by omega
  have l1 : w.heap.size + 1 < w1.heap.size := by omega
  have l2 : w.heap.size + 1 + 1 < w1.heap.size := by omega
  go_wp2_with fail
  all_goals
    first
    | (exfalso; omega)
    | (refine bodyPost_ret (v := .tuple #[.agg #[.int .i64 0, .int .i64 0], .bool false]) ?_ rfl ⟨rfl, (((((((Below.refl _ _).alloc (Nat.le_refl _) _).alloc (by first | (simp; done) | (simp; omega)) _).alloc (by first | (simp; done) | (simp; omega)) _).trans (hb1.mono (by first | (simp; done) | (simp; omega)))).setCell (by first | (simp; done) | (simp; omega)) _).setCell (by first | (simp; done) | (simp; omega)) _)⟩; simp [results, Try.results10, go_sem, hc1, l0, l1, l2]; done)


set_option maxHeartbeats 2000000 in
theorem meet_b (af at' bf bt : Int) (h : okI af at' = true) (k : okI bf bt = false) (w : World) : Calls Try.prog 10 #[iv af at', iv bf bt] w fun e w' => e = .returned (ivb 0 0 false) ∧ Below w.heap.size w w' := by
  have V1 := fun w => check_any af at' w
  have V2 := fun w => check_any bf bt w
  simp only [h, if_true, if_false, Bool.false_eq_true] at V1
  have H1 := Lib.hid V1; clear V1
  simp only [k, if_true, if_false, Bool.false_eq_true] at V2
  have H2 := Lib.hid V2; clear V2
  go_enter Try.func10, Try.ntmps10
  go_wp2_with fail
  refine (H1.out _).mono ?_
  rintro e w1 ⟨rfl, hb1⟩
  have hz1 := hb1.size
  obtain ⟨hc1, hf1⟩ := bcell hb1
  simp at hz1
  have l0 : w.heap.size < w1.heap.size := by omega
  have l1 : w.heap.size + 1 < w1.heap.size := by omega
  have l2 : w.heap.size + 1 + 1 < w1.heap.size := by omega
  go_wp2_with fail
  refine (H2.out _).mono ?_
  rintro e w2 ⟨rfl, hb2⟩
  have hz2 := hb2.size
  obtain ⟨hc2, hf2⟩ := bcell hb2
  have m0 : w.heap.size < w2.heap.size := by omega
  have m1 : w.heap.size + 1 < w2.heap.size := by omega
  have m2 : w.heap.size + 1 + 1 < w2.heap.size := by omega
  go_wp2_with fail
  all_goals
    first
    | (exfalso; omega)
    | (refine bodyPost_ret (v := .tuple #[.agg #[.int .i64 0, .int .i64 0], .bool false]) ?_ rfl ⟨rfl, ((((((((Below.refl _ _).alloc (Nat.le_refl _) _).alloc (by first | (simp; done) | (simp; omega)) _).alloc (by first | (simp; done) | (simp; omega)) _).trans (hb1.mono (by first | (simp; done) | (simp; omega)))).trans (hb2.mono (by omega))).setCell (by first | (simp; done) | (simp; omega)) _).setCell (by first | (simp; done) | (simp; omega)) _)⟩; simp [results, Try.results10, go_sem, hc1, hc2, l0, l1, l2, m0, m1, m2]; done)


set_option maxHeartbeats 2000000 in
theorem meet_c (af at' bf bt : Int) (h : okI af at' = true) (k : okI bf bt = true) (g : at' < bf) (w : World) : Calls Try.prog 10 #[iv af at', iv bf bt] w fun e w' => e = .returned (ivb 0 0 false) ∧ Below w.heap.size w w' := by
  have V1 := fun w => check_any af at' w
  have V2 := fun w => check_any bf bt w
  simp only [h, if_true, if_false, Bool.false_eq_true] at V1
  have H1 := Lib.hid V1; clear V1
  simp only [k, if_true, if_false, Bool.false_eq_true] at V2
  have H2 := Lib.hid V2; clear V2
  go_enter Try.func10, Try.ntmps10
  go_wp2_with fail
  refine (H1.out _).mono ?_
  rintro e w1 ⟨rfl, hb1⟩
  have hz1 := hb1.size
  obtain ⟨hc1, hf1⟩ := bcell hb1
  simp at hz1
  have l0 : w.heap.size < w1.heap.size := by omega
  have l1 : w.heap.size + 1 < w1.heap.size := by omega
  have l2 : w.heap.size + 1 + 1 < w1.heap.size := by omega
  go_wp2_with fail
  refine (H2.out _).mono ?_
  rintro e w2 ⟨rfl, hb2⟩
  have hz2 := hb2.size
  obtain ⟨hc2, hf2⟩ := bcell hb2
  have m0 : w.heap.size < w2.heap.size := by omega
  have m1 : w.heap.size + 1 < w2.heap.size := by omega
  have m2 : w.heap.size + 1 + 1 < w2.heap.size := by omega
  go_wp2_with fail
  all_goals
    first
    | (exfalso; omega)
    | (refine bodyPost_ret (v := .tuple #[.agg #[.int .i64 0, .int .i64 0], .bool false]) ?_ rfl ⟨rfl, ((((((((Below.refl _ _).alloc (Nat.le_refl _) _).alloc (by first | (simp; done) | (simp; omega)) _).alloc (by first | (simp; done) | (simp; omega)) _).trans (hb1.mono (by first | (simp; done) | (simp; omega)))).trans (hb2.mono (by omega))).setCell (by first | (simp; done) | (simp; omega)) _).setCell (by first | (simp; done) | (simp; omega)) _)⟩; simp [results, Try.results10, go_sem, hc1, hc2, l0, l1, l2, m0, m1, m2]; done)


set_option maxHeartbeats 2000000 in
theorem meet_d (af at' bf bt : Int) (h : okI af at' = true) (k : okI bf bt = true) (g : ¬ at' < bf) (g2 : bt < af) (w : World) : Calls Try.prog 10 #[iv af at', iv bf bt] w fun e w' => e = .returned (ivb 0 0 false) ∧ Below w.heap.size w w' := by
  have V1 := fun w => check_any af at' w
  have V2 := fun w => check_any bf bt w
  simp only [h, if_true, if_false, Bool.false_eq_true] at V1
  have H1 := Lib.hid V1; clear V1
  simp only [k, if_true, if_false, Bool.false_eq_true] at V2
  have H2 := Lib.hid V2; clear V2
  go_enter Try.func10, Try.ntmps10
  go_wp2_with fail
  refine (H1.out _).mono ?_
  rintro e w1 ⟨rfl, hb1⟩
  have hz1 := hb1.size
  obtain ⟨hc1, hf1⟩ := bcell hb1
  simp at hz1
  have l0 : w.heap.size < w1.heap.size := by omega
  have l1 : w.heap.size + 1 < w1.heap.size := by omega
  have l2 : w.heap.size + 1 + 1 < w1.heap.size := by omega
  go_wp2_with fail
  refine (H2.out _).mono ?_
  rintro e w2 ⟨rfl, hb2⟩
  have hz2 := hb2.size
  obtain ⟨hc2, hf2⟩ := bcell hb2
  have m0 : w.heap.size < w2.heap.size := by omega
  have m1 : w.heap.size + 1 < w2.heap.size := by omega
  have m2 : w.heap.size + 1 + 1 < w2.heap.size := by omega
  go_wp2_with fail
  all_goals
    first
    | (exfalso; omega)
    | (refine bodyPost_ret (v := .tuple #[.agg #[.int .i64 0, .int .i64 0], .bool false]) ?_ rfl ⟨rfl, ((((((((Below.refl _ _).alloc (Nat.le_refl _) _).alloc (by first | (simp; done) | (simp; omega)) _).alloc (by first | (simp; done) | (simp; omega)) _).trans (hb1.mono (by first | (simp; done) | (simp; omega)))).trans (hb2.mono (by omega))).setCell (by first | (simp; done) | (simp; omega)) _).setCell (by first | (simp; done) | (simp; omega)) _)⟩; simp [results, Try.results10, go_sem, hc1, hc2, l0, l1, l2, m0, m1, m2]; done)


set_option maxHeartbeats 2000000 in
theorem meet_e (af at' bf bt : Int) (h : okI af at' = true) (k : okI bf bt = true) (g : ¬ at' < bf) (g2 : ¬ bt < af) (w : World) : Calls Try.prog 10 #[iv af at', iv bf bt] w fun e w' => e = .returned (ivb (max af bf) (min at' bt) true) ∧ Below w.heap.size w w' := by
  have V1 := fun w => check_any af at' w
  have V2 := fun w => check_any bf bt w
  simp only [h, if_true, if_false, Bool.false_eq_true] at V1
  have H1 := Lib.hid V1; clear V1
  simp only [k, if_true, if_false, Bool.false_eq_true] at V2
  have H2 := Lib.hid V2; clear V2
  go_enter Try.func10, Try.ntmps10
  go_wp2_with fail
  refine (H1.out _).mono ?_
  rintro e w1 ⟨rfl, hb1⟩
  have hz1 := hb1.size
  obtain ⟨hc1, hf1⟩ := bcell hb1
  simp at hz1
  have l0 : w.heap.size < w1.heap.size := by omega
  have l1 : w.heap.size + 1 < w1.heap.size := by omega
  have l2 : w.heap.size + 1 + 1 < w1.heap.size := by omega
  go_wp2_with fail
  refine (H2.out _).mono ?_
  rintro e w2 ⟨rfl, hb2⟩
  have hz2 := hb2.size
  obtain ⟨hc2, hf2⟩ := bcell hb2
  have m0 : w.heap.size < w2.heap.size := by omega
  have m1 : w.heap.size + 1 < w2.heap.size := by omega
  have m2 : w.heap.size + 1 + 1 < w2.heap.size := by omega
  go_wp2_with fail
  all_goals
    first
    | (exfalso; omega)
    | (refine bodyPost_ret (v := ivb (max af bf) (min at' bt) true) ?_ rfl ⟨rfl, ((((((((Below.refl _ _).alloc (Nat.le_refl _) _).alloc (by first | (simp <;> first | omega | (constructor <;> omega)) | (simp; omega)) _).alloc (by first | (simp <;> first | omega | (constructor <;> omega)) | (simp; omega)) _).trans (hb1.mono (by first | (simp <;> first | omega | (constructor <;> omega)) | (simp; omega)))).trans (hb2.mono (by omega))).setCell (by first | (simp <;> first | omega | (constructor <;> omega)) | (simp; omega)) _).setCell (by first | (simp <;> first | omega | (constructor <;> omega)) | (simp; omega)) _)⟩; simp [results, Try.results10, go_sem, hc1, hc2, l0, l1, l2, m0, m1, m2] <;> first | omega | (constructor <;> omega))


set_option maxHeartbeats 2000000 in
theorem rmeet_a (af at' bf bt : Int) (h : okI af at' = false) (w : World) : Calls Try.prog 11 #[iv af at', iv bf bt] w fun e w' => e = .returned (ivb 0 0 false) ∧ Below w.heap.size w w' := by
  have V1 := fun w => rvalid_any af at' w
  simp only [h, if_true, if_false, Bool.false_eq_true] at V1
  have H1 := Lib.hid V1; clear V1
  go_enter Try.func11, Try.ntmps11
  go_wp2_with fail
  all_goals
    refine (H1.out _).mono ?_
    rintro e w1 ⟨rfl, hb1⟩
    have hz1 := hb1.size
    obtain ⟨hc1, hf1⟩ := bcell hb1
    simp at hz1
    have l0 : w.heap.size < w1.heap.size := by omega
    have l1 : w.heap.size + 1 < w1.heap.size := by omega
    have l2 : w.heap.size + 1 + 1 < w1.heap.size := by omega
    have l3 : w.heap.size + 1 + 1 + 1 < w1.heap.size := by omega
    go_wp2_with fail
    all_goals
      first
      | (exfalso; omega)
      | (refine bodyPost_ret (v := .tuple #[.agg #[.int .i64 0, .int .i64 0], .bool false]) ?_ rfl ⟨rfl, ((((((((Below.refl _ _).alloc (Nat.le_refl _) _).alloc (by first | (simp; done) | (simp; omega)) _).alloc (by first | (simp; done) | (simp; omega)) _).alloc (by first | (simp; done) | (simp; omega)) _).trans (hb1.mono (by first | (simp; done) | (simp; omega)))).setCell (by first | (simp; done) | (simp; omega)) _).setCell (by first | (simp; done) | (simp; omega)) _)⟩; simp [results, Try.results11, go_sem, hc1, l0, l1, l2]; done)


set_option maxHeartbeats 2000000 in
theorem rmeet_b (af at' bf bt : Int) (h : okI af at' = true) (k : okI bf bt = false) (w : World) : Calls Try.prog 11 #[iv af at', iv bf bt] w fun e w' => e = .returned (ivb 0 0 false) ∧ Below w.heap.size w w' := by
  have V1 := fun w => rvalid_any af at' w
  have V2 := fun w => rvalid_any bf bt w
  simp only [h, if_true, if_false, Bool.false_eq_true] at V1
  have H1 := Lib.hid V1; clear V1
  simp only [k, if_true, if_false, Bool.false_eq_true] at V2
  have H2 := Lib.hid V2; clear V2
  go_enter Try.func11, Try.ntmps11
  go_wp2_with fail
  all_goals
    refine (H1.out _).mono ?_
    rintro e w1 ⟨rfl, hb1⟩
    have hz1 := hb1.size
    obtain ⟨hc1, hf1⟩ := bcell hb1
    simp at hz1
    have l0 : w.heap.size < w1.heap.size := by omega
    have l1 : w.heap.size + 1 < w1.heap.size := by omega
    have l2 : w.heap.size + 1 + 1 < w1.heap.size := by omega
    have l3 : w.heap.size + 1 + 1 + 1 < w1.heap.size := by omega
    go_wp2_with fail
    refine (H2.out _).mono ?_
    rintro e w2 ⟨rfl, hb2⟩
    have hz2 := hb2.size
    obtain ⟨hc2, hf2⟩ := bcell hb2
    have m0 : w.heap.size < w2.heap.size := by omega
    have m1 : w.heap.size + 1 < w2.heap.size := by omega
    have m2 : w.heap.size + 1 + 1 < w2.heap.size := by omega
    have m3 : w.heap.size + 1 + 1 + 1 < w2.heap.size := by omega
    go_wp2_with fail
    all_goals
      first
      | (exfalso; omega)
      | (refine bodyPost_ret (v := .tuple #[.agg #[.int .i64 0, .int .i64 0], .bool false]) ?_ rfl ⟨rfl, (((((((((Below.refl _ _).alloc (Nat.le_refl _) _).alloc (by first | (simp; done) | (simp; omega)) _).alloc (by first | (simp; done) | (simp; omega)) _).alloc (by first | (simp; done) | (simp; omega)) _).trans (hb1.mono (by first | (simp; done) | (simp; omega)))).trans (hb2.mono (by omega))).setCell (by first | (simp; done) | (simp; omega)) _).setCell (by first | (simp; done) | (simp; omega)) _)⟩; simp [results, Try.results11, go_sem, hc1, hc2, l0, l1, l2, m0, m1, m2]; done)


set_option maxHeartbeats 2000000 in
theorem rmeet_c (af at' bf bt : Int) (h : okI af at' = true) (k : okI bf bt = true) (g : min at' bt < max af bf) (w : World) : Calls Try.prog 11 #[iv af at', iv bf bt] w fun e w' => e = .returned (ivb 0 0 false) ∧ Below w.heap.size w w' := by
  have V1 := fun w => rvalid_any af at' w
  have V2 := fun w => rvalid_any bf bt w
  simp only [h, if_true, if_false, Bool.false_eq_true] at V1
  have H1 := Lib.hid V1; clear V1
  simp only [k, if_true, if_false, Bool.false_eq_true] at V2
  have H2 := Lib.hid V2; clear V2
  go_enter Try.func11, Try.ntmps11
  go_wp2_with fail
  all_goals
    refine (H1.out _).mono ?_
    rintro e w1 ⟨rfl, hb1⟩
    have hz1 := hb1.size
    obtain ⟨hc1, hf1⟩ := bcell hb1
    simp at hz1
    have l0 : w.heap.size < w1.heap.size := by omega
    have l1 : w.heap.size + 1 < w1.heap.size := by omega
    have l2 : w.heap.size + 1 + 1 < w1.heap.size := by omega
    have l3 : w.heap.size + 1 + 1 + 1 < w1.heap.size := by omega
    go_wp2_with fail
    refine (H2.out _).mono ?_
    rintro e w2 ⟨rfl, hb2⟩
    have hz2 := hb2.size
    obtain ⟨hc2, hf2⟩ := bcell hb2
    have m0 : w.heap.size < w2.heap.size := by omega
    have m1 : w.heap.size + 1 < w2.heap.size := by omega
    have m2 : w.heap.size + 1 + 1 < w2.heap.size := by omega
    have m3 : w.heap.size + 1 + 1 + 1 < w2.heap.size := by omega
    go_wp2_with fail
    all_goals
      first
      | (exfalso; omega)
      | (refine bodyPost_ret (v := .tuple #[.agg #[.int .i64 0, .int .i64 0], .bool false]) ?_ rfl ⟨rfl, (((((((((Below.refl _ _).alloc (Nat.le_refl _) _).alloc (by first | (simp; done) | (simp; omega)) _).alloc (by first | (simp; done) | (simp; omega)) _).alloc (by first | (simp; done) | (simp; omega)) _).trans (hb1.mono (by first | (simp; done) | (simp; omega)))).trans (hb2.mono (by omega))).setCell (by first | (simp; done) | (simp; omega)) _).setCell (by first | (simp; done) | (simp; omega)) _)⟩; simp [results, Try.results11, go_sem, hc1, hc2, l0, l1, l2, m0, m1, m2]; done)


set_option maxHeartbeats 2000000 in
theorem rmeet_e (af at' bf bt : Int) (h : okI af at' = true) (k : okI bf bt = true) (g : ¬ min at' bt < max af bf) (w : World) : Calls Try.prog 11 #[iv af at', iv bf bt] w fun e w' => e = .returned (ivb (max af bf) (min at' bt) true) ∧ Below w.heap.size w w' := by
  have V1 := fun w => rvalid_any af at' w
  have V2 := fun w => rvalid_any bf bt w
  simp only [h, if_true, if_false, Bool.false_eq_true] at V1
  have H1 := Lib.hid V1; clear V1
  simp only [k, if_true, if_false, Bool.false_eq_true] at V2
  have H2 := Lib.hid V2; clear V2
  go_enter Try.func11, Try.ntmps11
  go_wp2_with fail
  all_goals
    refine (H1.out _).mono ?_
    rintro e w1 ⟨rfl, hb1⟩
    have hz1 := hb1.size
    obtain ⟨hc1, hf1⟩ := bcell hb1
    simp at hz1
    have l0 : w.heap.size < w1.heap.size := by omega
    have l1 : w.heap.size + 1 < w1.heap.size := by omega
    have l2 : w.heap.size + 1 + 1 < w1.heap.size := by omega
    have l3 : w.heap.size + 1 + 1 + 1 < w1.heap.size := by omega
    go_wp2_with fail
    refine (H2.out _).mono ?_
    rintro e w2 ⟨rfl, hb2⟩
    have hz2 := hb2.size
    obtain ⟨hc2, hf2⟩ := bcell hb2
    have m0 : w.heap.size < w2.heap.size := by omega
    have m1 : w.heap.size + 1 < w2.heap.size := by omega
    have m2 : w.heap.size + 1 + 1 < w2.heap.size := by omega
    have m3 : w.heap.size + 1 + 1 + 1 < w2.heap.size := by omega
    go_wp2_with fail
    all_goals
      first
      | (exfalso; omega)
      | (refine bodyPost_ret (v := ivb (max af bf) (min at' bt) true) ?_ rfl ⟨rfl, (((((((((Below.refl _ _).alloc (Nat.le_refl _) _).alloc (by first | (simp <;> first | omega | (constructor <;> omega)) | (simp; omega)) _).alloc (by first | (simp <;> first | omega | (constructor <;> omega)) | (simp; omega)) _).alloc (by first | (simp <;> first | omega | (constructor <;> omega)) | (simp; omega)) _).trans (hb1.mono (by first | (simp <;> first | omega | (constructor <;> omega)) | (simp; omega)))).trans (hb2.mono (by omega))).setCell (by first | (simp <;> first | omega | (constructor <;> omega)) | (simp; omega)) _).setCell (by first | (simp <;> first | omega | (constructor <;> omega)) | (simp; omega)) _)⟩; simp [results, Try.results11, go_sem, hc1, hc2, l0, l1, l2, m0, m1, m2] <;> first | omega | (constructor <;> omega))


end Go.Proofs.Ytolkmfpbgheaaaa
