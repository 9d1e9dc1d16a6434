import Derived.Test.YtjjibddpgjoeeaaRefE
import Derived.Test.YtjjibddpgjoeeaaE
namespace Go.Proofs.Ytjjibddpgjoeeaa
open Go.ChangeShapes Go.WideShapes Go.ChangeAt Go.RowKit

theorem refMul_any (a b : Int) (a1 : -9223372036854775808 ≤ a) (a2 : a ≤ 9223372036854775807) (b1 : -9223372036854775808 ≤ b) (b2 : b ≤ 9223372036854775807) (w : World) :
    Calls Try.prog 15 #[.int .i64 a, .int .i64 b] w fun e w' => e = .returned (.agg #[.int .i64 (whi (a * b)), .int .u64 (wlo (a * b))]) ∧ Below w.heap.size w w' := by
  have o := Lib.hid (fun w => refOf_any a w a1 a2)
  have s := Lib.hid (fun w => refScale_any a b b1 b2 w)
  go_enter Try.func15, Try.ntmps15
  go_wp2_with fail
  refine (o.out _).mono ?_
  rintro e w1 ⟨rfl, hb1⟩
  have HR : Hid (Open2 w1 w.heap.size) := Open2.kept ⟨by simp [go_sem], by simp [go_sem], by simp [go_sem], by simp [go_sem]⟩ hb1
  have HB1 : Below w.heap.size w w1 := ((Below.refl _ _).alloc (Nat.le_refl _) _).trans (hb1.mono (by simp))
  clear hb1
  go_wp2_with fail
  refine (s.out _).mono ?_
  rintro e w2 ⟨rfl, hb2⟩
  have HR2 := HR.out.kept hb2
  have HB2 : Below w.heap.size w w2 := HB1.trans (hb2.mono HB1.size)
  have g0 := HR2.f0; have g1 := HR2.f1; have g2 := HR2.r0; have g3 := HR2.r1
  have e2 := twoset (x := .int .i64 (whi (a * b))) (y := .int .u64 (wlo (a * b))) g2 g3
  obtain ⟨y0, hy0⟩ := Option.isSome_iff_exists.1 g2
  obtain ⟨y1, hy1⟩ := Option.isSome_iff_exists.1 g3
  have E2 := Lib.hid e2
  clear g2 g3 HR2 hb2 HB1 HR e2
  go_wp2_with fail
  refine bodyPost_ret (v := .agg #[.int .i64 (whi (a * b)), .int .u64 (wlo (a * b))]) ?_ rfl ⟨rfl, (HB2.setCell (by simp) _).setCell (by simp) _⟩
  simp [results, Try.results15, go_sem, E2.out.1, E2.out.2]

set_option maxRecDepth 100000 in
set_option maxHeartbeats 4000000 in
theorem mproducts_walk (a b c : Int) (b1 : -9223372036854775808 ≤ b) (b2 : b ≤ 9223372036854775807) (c1 : -9223372036854775808 ≤ c) (c2 : c ≤ 9223372036854775807) (w : World) :
    Calls Try.prog 3 #[.agg #[.int .i64 (whi a), .int .u64 (wlo a)], .int .i64 b, .int .i64 c] w fun e w' => e = .returned (.bool true) ∧ Below w.heap.size w w' := by
  have m1 := Lib.hid (fun w => mul_any b c b1 b2 c1 c2 w)
  have m2 := Lib.hid (fun w => refMul_any b c b1 b2 c1 c2 w)
  have m3 := Lib.hid (fun w => scale_any a b b1 b2 w)
  have m4 := Lib.hid (fun w => refScale_any a b b1 b2 w)
  go_enter Try.func3, Try.ntmps3
  go_wp2_with fail
  refine (example_any _).mono ?_
  rintro e w1 ⟨rfl, hb1⟩
  have hz1 := hb1.size
  simp at hz1
  have f0 : w1.cell? ⟨w.heap.size, 0, none⟩ = some (.int .i64 (whi a)) := by rw [hb1.cell (by simp; try omega)]; simp [go_sem]
  have f1 : w1.cell? ⟨w.heap.size, 1, none⟩ = some (.int .u64 (wlo a)) := by rw [hb1.cell (by simp; try omega)]; simp [go_sem]
  have HB : Below w.heap.size w w1 := ((Below.refl _ _).alloc (Nat.le_refl _) _).trans (hb1.mono (by simp))
  clear hb1
  have hB : w.heap.size + 1 ≤ w1.heap.size := by omega
  have HS : Hid (∀ w', Below (w.heap.size + 1) w1 w' → Below (w.heap.size + 1) w1 w' ∧ w'.cell? ⟨w.heap.size, 0, none⟩ = some (.int .i64 (whi a)) ∧ w'.cell? ⟨w.heap.size, 1, none⟩ = some (.int .u64 (wlo a))) :=
    fun w' h => ⟨h, (h.cell (by simp)).trans f0, (h.cell (by simp)).trans f1⟩
  go_wp2_with fail
  go_region_held3 (fun w' => Below (w.heap.size + 1) w1 w' ∧ w'.cell? ⟨w.heap.size, 0, none⟩ = some (.int .i64 (whi a)) ∧ w'.cell? ⟨w.heap.size, 1, none⟩ = some (.int .u64 (wlo a)))
    (first | exact HS.out _ ((Below.refl _ _).drew) | exact HS.out _ (keepB hB (And.left (by assumption)) hb))
    (first
     | (go_at_call 14; refine (m1.out _).mono ?_; rintro e w' ⟨rfl, hb⟩)
     | (go_at_call 15; refine (m2.out _).mono ?_; rintro e w' ⟨rfl, hb⟩)
     | (go_at_call 16; refine (m3.out _).mono ?_; rintro e w' ⟨rfl, hb⟩)
     | (go_at_call 17; refine (m4.out _).mono ?_; rintro e w' ⟨rfl, hb⟩))
  have HL : Below (w.heap.size + 1) w1 _ := And.left (by assumption)
  go_wp2_with fail
  go_ret
  exact ⟨rfl, HB.trans (HL.mono (by omega))⟩
end Go.Proofs.Ytjjibddpgjoeeaa
