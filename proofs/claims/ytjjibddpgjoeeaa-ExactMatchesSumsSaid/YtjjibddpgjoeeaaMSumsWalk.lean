import Derived.Test.YtjjibddpgjoeeaaRefD
import Derived.Test.YtjjibddpgjoeeaaE
namespace Go.Proofs.Ytjjibddpgjoeeaa
open Go.ChangeShapes Go.WideShapes Go.ChangeAt Go.RowKit

set_option maxRecDepth 100000 in
set_option maxHeartbeats 4000000 in
theorem msums_walk (a b n : Int) (n1 : -9223372036854775808 ≤ n) (n2 : n ≤ 9223372036854775807) (w : World) :
    Calls Try.prog 7 #[Value.agg #[Value.int IntKind.i64 (whi a), Value.int IntKind.u64 (wlo a)], Value.agg #[Value.int IntKind.i64 (whi b), Value.int IntKind.u64 (wlo b)], Value.int IntKind.i64 n] w fun e w' => e = .returned (.bool true) ∧ Below w.heap.size w w' := by
  have c0 := Lib.hid (fun w => add_any a b w)
  have c1 := Lib.hid (fun w => refAdd_any a b w)
  have c2 := Lib.hid (fun w => sub_any a b w)
  have c3 := Lib.hid (fun w => refSub_any a b w)
  have c4 := Lib.hid (fun w => neg_any a w)
  have c5 := Lib.hid (fun w => rneg_any a w)
  have c6 := Lib.hid (fun w => of_any n w n1 n2)
  have c7 := Lib.hid (fun w => refOf_any n w n1 n2)
  have c8 := Lib.hid (fun w => compare_any a b w)
  have c9 := Lib.hid (fun w => rcompare_any a b w)
  generalize cmp3 (norm a) (norm b) = z at *
  go_enter Try.func7, Try.ntmps7
  go_wp2_with fail
  refine (example_any _).mono ?_
  rintro e w1 ⟨rfl, hb1⟩
  have hz1 := hb1.size
  simp at hz1
  have f0 : w1.cell? ⟨w.heap.size, 0, none⟩ = some (.int .i64 (whi a)) := by rw [hb1.cell (by simp; try omega)]; simp [go_sem]
  have f1 : w1.cell? ⟨w.heap.size, 1, none⟩ = some (.int .u64 (wlo a)) := by rw [hb1.cell (by simp; try omega)]; simp [go_sem]
  have f2 : w1.cell? ⟨w.heap.size + 1, 0, none⟩ = some (.int .i64 (whi b)) := by rw [hb1.cell (by simp; try omega)]; simp [go_sem]
  have f3 : w1.cell? ⟨w.heap.size + 1, 1, none⟩ = some (.int .u64 (wlo b)) := by rw [hb1.cell (by simp; try omega)]; simp [go_sem]
  have HB : Below w.heap.size w w1 := (((Below.refl _ _).alloc (Nat.le_refl _) _).alloc (by simp) _).trans (hb1.mono (by simp; omega))
  clear hb1
  have hB : w.heap.size + 1 + 1 ≤ w1.heap.size := by omega
  have HS : Hid (∀ w', Below (w.heap.size + 1 + 1) w1 w' → Below (w.heap.size + 1 + 1) w1 w' ∧ w'.cell? ⟨w.heap.size, 0, none⟩ = some (.int .i64 (whi a)) ∧ w'.cell? ⟨w.heap.size, 1, none⟩ = some (.int .u64 (wlo a)) ∧ w'.cell? ⟨w.heap.size + 1, 0, none⟩ = some (.int .i64 (whi b)) ∧ w'.cell? ⟨w.heap.size + 1, 1, none⟩ = some (.int .u64 (wlo b))) :=
    fun w' h => ⟨h, (h.cell (by simp; try omega)).trans f0, (h.cell (by simp; try omega)).trans f1, (h.cell (by simp; try omega)).trans f2, (h.cell (by simp; try omega)).trans f3⟩
  go_wp2_with fail
  go_region_held3 (fun w' => Below (w.heap.size + 1 + 1) w1 w' ∧ w'.cell? ⟨w.heap.size, 0, none⟩ = some (.int .i64 (whi a)) ∧ w'.cell? ⟨w.heap.size, 1, none⟩ = some (.int .u64 (wlo a)) ∧ w'.cell? ⟨w.heap.size + 1, 0, none⟩ = some (.int .i64 (whi b)) ∧ w'.cell? ⟨w.heap.size + 1, 1, none⟩ = some (.int .u64 (wlo b)))
    (first | exact HS.out _ ((Below.refl _ _).drew) | exact HS.out _ (keepB hB (And.left (by assumption)) hb))
    (first
     | (go_at_call 21; refine (c0.out _).mono ?_; rintro e w' ⟨rfl, hb⟩)
     | (go_at_call 22; refine (c1.out _).mono ?_; rintro e w' ⟨rfl, hb⟩)
     | (go_at_call 23; refine (c2.out _).mono ?_; rintro e w' ⟨rfl, hb⟩)
     | (go_at_call 24; refine (c3.out _).mono ?_; rintro e w' ⟨rfl, hb⟩)
     | (go_at_call 25; refine (c4.out _).mono ?_; rintro e w' ⟨rfl, hb⟩)
     | (go_at_call 26; refine (c5.out _).mono ?_; rintro e w' ⟨rfl, hb⟩))
  clear f0 f1 f2 f3
  go_wp2_with fail
  go_region_held3 (fun w' => Below (w.heap.size + 1 + 1) w1 w' ∧ w'.cell? ⟨w.heap.size, 0, none⟩ = some (.int .i64 (whi a)) ∧ w'.cell? ⟨w.heap.size, 1, none⟩ = some (.int .u64 (wlo a)) ∧ w'.cell? ⟨w.heap.size + 1, 0, none⟩ = some (.int .i64 (whi b)) ∧ w'.cell? ⟨w.heap.size + 1, 1, none⟩ = some (.int .u64 (wlo b)))
    (first | exact HS.out _ (Below.drew (And.left (by assumption))) | exact HS.out _ (keepB hB (And.left (by assumption)) hb))
    (first
     | (go_at_call 20; refine (c6.out _).mono ?_; rintro e w' ⟨rfl, hb⟩)
     | (go_at_call 27; refine (c7.out _).mono ?_; rintro e w' ⟨rfl, hb⟩)
     | (go_at_call 28; refine (c8.out _).mono ?_; rintro e w' ⟨rfl, hb⟩)
     | (go_at_call 29; refine (c9.out _).mono ?_; rintro e w' ⟨rfl, hb⟩))
  have HL : Below (w.heap.size + 1 + 1) w1 _ := And.left (by assumption)
  go_wp2_with fail
  go_ret
  exact ⟨rfl, HB.trans (HL.mono (by omega))⟩
end Go.Proofs.Ytjjibddpgjoeeaa
