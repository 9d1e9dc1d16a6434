import Derived.Test.YtjjibddpgjoeeaaRefH
import Derived.Test.YtjjibddpgjoeeaaE
import Derived.Test.YtjjibddpgjoeeaaF
namespace Go.Proofs.Ytjjibddpgjoeeaa
open Go.ChangeShapes Go.WideShapes Go.ChangeAt Go.RowKit

theorem refDivide_zero (a : Int) (w : World) :
    Calls Try.prog 19 #[.agg #[.int .i64 (whi a), .int .u64 (wlo a)], .int .i64 0] w fun e w' => e = .returned (.tuple #[.int .i64 0, .bool false]) ∧ Below w.heap.size w w' := by
  go_enter Try.func19, Try.ntmps19
  go_wp2_with fail
  exact bodyPost_ret (v := .tuple #[.int .i64 0, .bool false]) (by simp [results, Try.results19, go_sem]) rfl ⟨rfl, (Below.refl _ _).alloc (Nat.le_refl _) _⟩

theorem refDivide_any (a d : Int) (d1 : -9223372036854775808 ≤ d) (d2 : d ≤ 9223372036854775807) (w : World) :
    Calls Try.prog 19 #[.agg #[.int .i64 (whi a), .int .u64 (wlo a)], .int .i64 d] w fun e w' => e = .returned (divRes (norm a) d) ∧ Below w.heap.size w w' := by
  by_cases hd : d = 0
  · subst hd
    refine (refDivide_zero a w).mono ?_
    rintro e w' ⟨rfl, hb⟩
    exact ⟨by simp [divRes], hb⟩
  · have hN0 : 0 ≤ absI (norm a) ∧ absI (norm a) ≤ 170141183460469231731687303715884105728 := by have := norm_lo a; have := norm_hi a; unfold absI; split <;> omega
    have hD0 : 1 ≤ absI d ∧ absI d ≤ 9223372036854775808 := by unfold absI; split <;> omega
    have hvx : ∀ c, c = (if norm a < 0 then -a else a) → val8 (dgt c) = absI (norm a) := by
      intro c hc
      refine val_exact (digs_dgt c) (eqv_trans (val_dgt c) ?_) hN0.1 (by omega)
      have h1 := norm_eqv a
      subst hc
      unfold absI
      unfold eqv at *
      split <;> omega
    refine refDivide_core a d (absI (norm a)) (absI d) (dgt (if norm a < 0 then -a else a)) (dgt (absI d)) hd (fun w => refOf_any d w d1 d2) (size_ref a _ rfl) (size_ref d _ (by rw [norm_int d d1 d2]; rfl)) hN0 hD0 (digs_dgt _) (hvx _ rfl) (digs_dgt _)
      (val_exact (digs_dgt _) (val_dgt _) (by omega) (by omega)) (divRes (norm a) d) ?_ w
    unfold divRes
    rw [if_neg hd, show decide (norm a < 0) = decide (whi a < 0) from decide_eq_decide.2 (iff_of_eq (neg_iff a))]

theorem divRes_form (N d : Int) : ∃ q o, divRes N d = .tuple #[.int .i64 q, .bool o] := by
  unfold divRes
  split
  · exact ⟨_, _, rfl⟩
  · unfold divOut
    split
    · exact ⟨_, _, rfl⟩
    · exact ⟨_, _, rfl⟩

set_option maxRecDepth 100000 in
set_option maxHeartbeats 4000000 in
theorem mdivide_walk (a d : Int) (d1 : -9223372036854775808 ≤ d) (d2 : d ≤ 9223372036854775807) (w : World) :
    Calls Try.prog 4 #[.agg #[.int .i64 (whi a), .int .u64 (wlo a)], .int .i64 d] w fun e w' => e = .returned (.bool true) ∧ Below w.heap.size w w' := by
  obtain ⟨q, o, hqo⟩ := divRes_form (norm a) d
  have m1 := fun w => divide_any a d d1 d2 w
  have m2 := fun w => refDivide_any a d d1 d2 w
  rw [hqo] at m1 m2
  have M1 := Lib.hid m1
  have M2 := Lib.hid m2
  clear m1 m2 hqo
  go_enter Try.func4, Try.ntmps4
  go_wp2_with fail
  refine (example_any _).mono ?_
  rintro e w1 ⟨rfl, hb1⟩
  have hz1 := hb1.size
  simp at hz1
  have f0 : w1.cell? ⟨w.heap.size, 0, none⟩ = some (.int .i64 (whi a)) := by rw [hb1.cell (by simp; try omega)]; simp [go_sem]
  have f1 : w1.cell? ⟨w.heap.size, 1, none⟩ = some (.int .u64 (wlo a)) := by rw [hb1.cell (by simp; try omega)]; simp [go_sem]
  have HB : Below w.heap.size w w1 := ((Below.refl _ _).alloc (Nat.le_refl _) _).trans (hb1.mono (by simp))
  clear hb1
  go_wp2_with fail
  refine (M1.out _).mono ?_
  rintro e w2 ⟨rfl, hb2⟩
  have g0 : w2.cell? ⟨w.heap.size, 0, none⟩ = some (.int .i64 (whi a)) := by rw [hb2.cell (by simp; omega), f0]
  have g1 : w2.cell? ⟨w.heap.size, 1, none⟩ = some (.int .u64 (wlo a)) := by rw [hb2.cell (by simp; omega), f1]
  have HB2 : Below w.heap.size w w2 := HB.trans (hb2.mono (by omega))
  clear hb2 f0 f1 HB
  go_wp2_with fail
  refine (M2.out _).mono ?_
  rintro e w3 ⟨rfl, hb3⟩
  have HB3 : Below w.heap.size w w3 := HB2.trans (hb3.mono HB2.size)
  clear hb3 HB2
  go_wp2_with fail
  go_ret
  exact ⟨rfl, HB3⟩
end Go.Proofs.Ytjjibddpgjoeeaa
