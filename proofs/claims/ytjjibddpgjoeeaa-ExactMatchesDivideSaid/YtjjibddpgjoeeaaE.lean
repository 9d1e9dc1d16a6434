import Derived.Test.YtjjibddpgjoeeaaD
import Derived.Deep.RegionHeld3
namespace Go.Proofs.Ytjjibddpgjoeeaa
open Go.ChangeShapes Go.WideShapes Go.ChangeAt Go.RowKit

theorem wp_gen {P : Program} {c : Code} {Q : Exit → Act → World → Prop} {a : Act} {w : World} (h : ∀ W, W = w → Code.wp P c Q a W) : Code.wp P c Q a w := h w rfl
theorem keepB {B : Nat} {w0 w w1 : World} (hB : B ≤ w0.heap.size) (h : Below B w0 w) (hb : Below w.heap.size w w1) : Below B w0 w1 := h.trans (hb.mono (Nat.le_trans hB h.size))

set_option maxHeartbeats 1000000 in
theorem products_walk (a b c : Int) (a1 : -9223372036854775808 ≤ a) (a2 : a ≤ 9223372036854775807) (b1 : -9223372036854775808 ≤ b) (b2 : b ≤ 9223372036854775807) (c1 : -9223372036854775808 ≤ c) (c2 : c ≤ 9223372036854775807) (w : World) :
    Calls Try.prog 5 #[.int .i64 a, .int .i64 b, .int .i64 c] w fun e w' => e = .returned (.bool true) ∧ Below w.heap.size w w' := by
  have mba := Lib.hid (fun w => by have h := mul_any b a b1 b2 a1 a2 w; rw [Int.mul_comm b a] at h; exact h)
  have m1 := Lib.hid (mul_any a b a1 a2 b1 b2)
  have ofa := Lib.hid (fun w => of_any a w a1 a2)
  have sc1 := Lib.hid (scale_any a b b1 b2)
  have sc2 := Lib.hid (scale_any (a * b) c c1 c2)
  have m2 := Lib.hid (mul_any b c b1 b2 c1 c2)
  have sc3 := Lib.hid (fun w => by have h := scale_any (b * c) a a1 a2 w; rw [show b * c * a = a * b * c by rw [Int.mul_comm, Int.mul_assoc]] at h; exact h)
  go_enter Try.func5, Try.ntmps5
  go_wp2_with fail
  refine (example_any _).mono ?_
  rintro e w1 ⟨rfl, hb1⟩
  go_wp2_with fail
  refine (m1.out _).mono ?_
  rintro e w2 ⟨rfl, hb2⟩
  go_wp2_with fail
  refine wp_gen (fun W hW => ?_)
  have hz1 := hb1.size; have hz2 := hb2.size
  have HB : Below w.heap.size w W := by rw [hW]; exact ((hb1.trans (hb2.mono (by omega)))).alloc (by omega) _
  have hB : w2.heap.size + 1 ≤ W.heap.size := by rw [hW]; simp
  have k0 : W.cell? ⟨w2.heap.size, 0, none⟩ = some (.int .i64 (whi (a * b))) := by rw [hW]; simp [go_sem]
  have k1 : W.cell? ⟨w2.heap.size, 1, none⟩ = some (.int .u64 (wlo (a * b))) := by rw [hW]; simp [go_sem]
  have hw2 : w.heap.size ≤ w2.heap.size + 1 := by omega
  clear hW hb1 hb2 hz1 hz2
  have HS : Hid (∀ w', Below (w2.heap.size + 1) W w' → Below (w2.heap.size + 1) W w' ∧ w'.cell? ⟨w2.heap.size, 0, none⟩ = some (.int .i64 (whi (a * b))) ∧ w'.cell? ⟨w2.heap.size, 1, none⟩ = some (.int .u64 (wlo (a * b)))) :=
    fun w' h => ⟨h, (h.cell (by simp)).trans k0, (h.cell (by simp)).trans k1⟩
  go_region_held3 (fun w' => Below (w2.heap.size + 1) W w' ∧ w'.cell? ⟨w2.heap.size, 0, none⟩ = some (.int .i64 (whi (a * b))) ∧ w'.cell? ⟨w2.heap.size, 1, none⟩ = some (.int .u64 (wlo (a * b))))
    (first | exact HS.out _ ((Below.refl _ _).drew) | exact HS.out _ (keepB hB (And.left (by assumption)) hb))
    (first
     | (go_at_call_of 14 (Value.int IntKind.i64 a); refine (mba.out _).mono ?_; rintro e w' ⟨rfl, hb⟩)
     | (go_at_call_of 14 (Value.int IntKind.i64 c); refine (m2.out _).mono ?_; rintro e w' ⟨rfl, hb⟩)
     | (go_at_call_of 16 (Value.int IntKind.i64 b); refine (sc1.out _).mono ?_; rintro e w' ⟨rfl, hb⟩)
     | (go_at_call_of 16 (Value.int IntKind.i64 c); refine (sc2.out _).mono ?_; rintro e w' ⟨rfl, hb⟩)
     | (go_at_call_of 16 (Value.int IntKind.i64 a); refine (sc3.out _).mono ?_; rintro e w' ⟨rfl, hb⟩)
     | (go_at_call 20; refine (ofa.out _).mono ?_; rintro e w' ⟨rfl, hb⟩))
  have HL : Below (w2.heap.size + 1) W w' := And.left (by assumption)
  go_wp2_with fail
  go_ret
  exact ⟨rfl, HB.trans (HL.mono hw2)⟩
end Go.Proofs.Ytjjibddpgjoeeaa
