import Derived.Test.YtjjibddpgjoeeaaE
namespace Go.Proofs.Ytjjibddpgjoeeaa
open Go.ChangeShapes Go.WideShapes Go.ChangeAt Go.RowKit

set_option maxRecDepth 100000 in
set_option maxHeartbeats 4000000 in
theorem ring_walk (a b c n : Int) (n1 : -9223372036854775808 ≤ n) (n2 : n ≤ 9223372036854775807) (w : World) :
    Calls Try.prog 8 #[Value.agg #[Value.int IntKind.i64 (whi a), Value.int IntKind.u64 (wlo a)], Value.agg #[Value.int IntKind.i64 (whi b), Value.int IntKind.u64 (wlo b)], Value.agg #[Value.int IntKind.i64 (whi c), Value.int IntKind.u64 (wlo c)], Value.int IntKind.i64 n] w fun e w' => e = .returned (.bool true) ∧ Below w.heap.size w w' := by
  have c0 := Lib.hid (fun w => by have h := add_any b a w; rw [show (b + a) = (a + b) by omega] at h; exact h)
  have c1 := Lib.hid (fun w => add_any (a + b) c w)
  have c2 := Lib.hid (fun w => add_any b c w)
  have c3 := Lib.hid (fun w => by have h := add_any a (b + c) w; rw [show (a + (b + c)) = (a + b + c) by omega] at h; exact h)
  have c4 := Lib.hid (fun w => of_any 0 w (by decide) (by decide))
  have c5 := Lib.hid (fun w => by have h := add_any a 0 w; rw [show (a + 0) = a by omega] at h; exact h)
  have c6 := Lib.hid (fun w => neg_any a w)
  have c7 := Lib.hid (fun w => by have h := add_any a (-a) w; rw [show (a + -a) = 0 by omega] at h; exact h)
  have c8 := Lib.hid (fun w => of_any 0 w (by decide) (by decide))
  have c9 := Lib.hid (fun w => sub_any a b w)
  have c10 := Lib.hid (fun w => neg_any b w)
  have c11 := Lib.hid (fun w => by have h := add_any a (-b) w; rw [show (a + -b) = (a - b) by omega] at h; exact h)
  have c12 := Lib.hid (fun w => by have h := neg_any (-a) w; rw [show (- -a) = a by omega] at h; exact h)
  have c13 := Lib.hid (fun w => scale_any (a + b) n n1 n2 w)
  have c14 := Lib.hid (fun w => scale_any a n n1 n2 w)
  have c15 := Lib.hid (fun w => scale_any b n n1 n2 w)
  have c16 := Lib.hid (fun w => by have h := add_any (a * n) (b * n) w; rw [show (a * n + b * n) = ((a + b) * n) by rw [Int.add_mul]] at h; exact h)
  have c17 := Lib.hid (fun w => by have h := scale_any a 1 (by decide) (by decide) w; rw [show (a * 1) = a by omega] at h; exact h)
  have c18 := Lib.hid (fun w => by have h := scale_any a (-1) (by decide) (by decide) w; rw [show (a * -1) = (-a) by omega] at h; exact h)
  have c19 := Lib.hid (fun w => neg_any a w)
  have d1 := Lib.hid (add_any a b)
  go_enter Try.func8, Try.ntmps8
  go_wp2_with fail
  refine (example_any _).mono ?_
  rintro e w1 ⟨rfl, hb1⟩
  have hz1 := hb1.size
  simp at hz1
  have f0 : w1.cell? ⟨w.heap.size, 0, none⟩ = some (.int .i64 (whi a)) := by rw [hb1.cell (by simp; try omega)]; simp [go_sem]
  have f1 : w1.cell? ⟨w.heap.size, 1, none⟩ = some (.int .u64 (wlo a)) := by rw [hb1.cell (by simp; try omega)]; simp [go_sem]
  have f2 : w1.cell? ⟨w.heap.size + 1, 0, none⟩ = some (.int .i64 (whi b)) := by rw [hb1.cell (by simp; try omega)]; simp [go_sem]
  have f3 : w1.cell? ⟨w.heap.size + 1, 1, none⟩ = some (.int .u64 (wlo b)) := by rw [hb1.cell (by simp; try omega)]; simp [go_sem]
  have f4 : w1.cell? ⟨w.heap.size + 1 + 1, 0, none⟩ = some (.int .i64 (whi c)) := by rw [hb1.cell (by simp; try omega)]; simp [go_sem]
  have f5 : w1.cell? ⟨w.heap.size + 1 + 1, 1, none⟩ = some (.int .u64 (wlo c)) := by rw [hb1.cell (by simp; try omega)]; simp [go_sem]
  have HB1 : Below w.heap.size w w1 := ((((Below.refl _ _).alloc (Nat.le_refl _) _).alloc (by simp) _).alloc (by simp; omega) _).trans (hb1.mono (by simp; omega))
  clear hb1
  go_wp2_with fail
  refine (d1.out _).mono ?_
  rintro e w2 ⟨rfl, hb2⟩
  have hz2 := hb2.size
  have g0 : w2.cell? ⟨w.heap.size, 0, none⟩ = some (.int .i64 (whi a)) := by rw [hb2.cell (by simp; omega), f0]
  have g1 : w2.cell? ⟨w.heap.size, 1, none⟩ = some (.int .u64 (wlo a)) := by rw [hb2.cell (by simp; omega), f1]
  have g2 : w2.cell? ⟨w.heap.size + 1, 0, none⟩ = some (.int .i64 (whi b)) := by rw [hb2.cell (by simp; omega), f2]
  have g3 : w2.cell? ⟨w.heap.size + 1, 1, none⟩ = some (.int .u64 (wlo b)) := by rw [hb2.cell (by simp; omega), f3]
  have g4 : w2.cell? ⟨w.heap.size + 1 + 1, 0, none⟩ = some (.int .i64 (whi c)) := by rw [hb2.cell (by simp; omega), f4]
  have g5 : w2.cell? ⟨w.heap.size + 1 + 1, 1, none⟩ = some (.int .u64 (wlo c)) := by rw [hb2.cell (by simp; omega), f5]
  have HB2 : Below w.heap.size w w2 := HB1.trans (hb2.mono (by omega))
  have hlt : w.heap.size + 1 + 1 < w2.heap.size := by omega
  clear f0 f1 f2 f3 f4 f5 hb2 HB1 hz1 hz2
  go_wp2_with fail
  refine wp_gen (fun W hW => ?_)
  have HB : Below w.heap.size w W := by rw [hW]; exact HB2.alloc (by omega) _
  have hB : w2.heap.size + 1 ≤ W.heap.size := by rw [hW]; simp
  have k0 : W.cell? ⟨w.heap.size, 0, none⟩ = some (.int .i64 (whi a)) := by rw [hW, (Below.alloc (Below.refl w2.heap.size w2) (Nat.le_refl _) _).cell (by simp; omega), g0]
  have k1 : W.cell? ⟨w.heap.size, 1, none⟩ = some (.int .u64 (wlo a)) := by rw [hW, (Below.alloc (Below.refl w2.heap.size w2) (Nat.le_refl _) _).cell (by simp; omega), g1]
  have k2 : W.cell? ⟨w.heap.size + 1, 0, none⟩ = some (.int .i64 (whi b)) := by rw [hW, (Below.alloc (Below.refl w2.heap.size w2) (Nat.le_refl _) _).cell (by simp; omega), g2]
  have k3 : W.cell? ⟨w.heap.size + 1, 1, none⟩ = some (.int .u64 (wlo b)) := by rw [hW, (Below.alloc (Below.refl w2.heap.size w2) (Nat.le_refl _) _).cell (by simp; omega), g3]
  have k4 : W.cell? ⟨w.heap.size + 1 + 1, 0, none⟩ = some (.int .i64 (whi c)) := by rw [hW, (Below.alloc (Below.refl w2.heap.size w2) (Nat.le_refl _) _).cell (by simp; omega), g4]
  have k5 : W.cell? ⟨w.heap.size + 1 + 1, 1, none⟩ = some (.int .u64 (wlo c)) := by rw [hW, (Below.alloc (Below.refl w2.heap.size w2) (Nat.le_refl _) _).cell (by simp; omega), g5]
  have k6 : W.cell? ⟨w2.heap.size, 0, none⟩ = some (.int .i64 (whi (a + b))) := by rw [hW]; simp [go_sem]
  have k7 : W.cell? ⟨w2.heap.size, 1, none⟩ = some (.int .u64 (wlo (a + b))) := by rw [hW]; simp [go_sem]
  clear hW HB2 g0 g1 g2 g3 g4 g5
  have HS : Hid (∀ w', Below (w2.heap.size + 1) W w' → Below (w2.heap.size + 1) W w' ∧ w'.cell? ⟨w.heap.size, 0, none⟩ = some (.int .i64 (whi a)) ∧ w'.cell? ⟨w.heap.size, 1, none⟩ = some (.int .u64 (wlo a)) ∧ w'.cell? ⟨w.heap.size + 1, 0, none⟩ = some (.int .i64 (whi b)) ∧ w'.cell? ⟨w.heap.size + 1, 1, none⟩ = some (.int .u64 (wlo b)) ∧ w'.cell? ⟨w.heap.size + 1 + 1, 0, none⟩ = some (.int .i64 (whi c)) ∧ w'.cell? ⟨w.heap.size + 1 + 1, 1, none⟩ = some (.int .u64 (wlo c)) ∧ w'.cell? ⟨w2.heap.size, 0, none⟩ = some (.int .i64 (whi (a + b))) ∧ w'.cell? ⟨w2.heap.size, 1, none⟩ = some (.int .u64 (wlo (a + b)))) :=
    fun w' h => ⟨h, (h.cell (by simp; omega)).trans k0, (h.cell (by simp; omega)).trans k1, (h.cell (by simp; omega)).trans k2, (h.cell (by simp; omega)).trans k3, (h.cell (by simp; omega)).trans k4, (h.cell (by simp; omega)).trans k5, (h.cell (by simp)).trans k6, (h.cell (by simp)).trans k7⟩
  go_region_held3 (fun w' => Below (w2.heap.size + 1) W w' ∧ w'.cell? ⟨w.heap.size, 0, none⟩ = some (.int .i64 (whi a)) ∧ w'.cell? ⟨w.heap.size, 1, none⟩ = some (.int .u64 (wlo a)) ∧ w'.cell? ⟨w.heap.size + 1, 0, none⟩ = some (.int .i64 (whi b)) ∧ w'.cell? ⟨w.heap.size + 1, 1, none⟩ = some (.int .u64 (wlo b)) ∧ w'.cell? ⟨w.heap.size + 1 + 1, 0, none⟩ = some (.int .i64 (whi c)) ∧ w'.cell? ⟨w.heap.size + 1 + 1, 1, none⟩ = some (.int .u64 (wlo c)) ∧ w'.cell? ⟨w2.heap.size, 0, none⟩ = some (.int .i64 (whi (a + b))) ∧ w'.cell? ⟨w2.heap.size, 1, none⟩ = some (.int .u64 (wlo (a + b))))
    (first | exact HS.out _ ((Below.refl _ _).drew) | exact HS.out _ (keepB hB (And.left (by assumption)) hb))
    (first
     | (go_at_call_of 21 (#[Value.agg #[Value.int IntKind.i64 (whi b), Value.int IntKind.u64 (wlo b)], Value.agg #[Value.int IntKind.i64 (whi a), Value.int IntKind.u64 (wlo a)]] : Array Value); refine (c0.out _).mono ?_; rintro e w' ⟨rfl, hb⟩)
     | (go_at_call_of 21 (#[Value.agg #[Value.int IntKind.i64 (whi (a + b)), Value.int IntKind.u64 (wlo (a + b))], Value.agg #[Value.int IntKind.i64 (whi c), Value.int IntKind.u64 (wlo c)]] : Array Value); refine (c1.out _).mono ?_; rintro e w' ⟨rfl, hb⟩)
     | (go_at_call_of 21 (#[Value.agg #[Value.int IntKind.i64 (whi b), Value.int IntKind.u64 (wlo b)], Value.agg #[Value.int IntKind.i64 (whi c), Value.int IntKind.u64 (wlo c)]] : Array Value); refine (c2.out _).mono ?_; rintro e w' ⟨rfl, hb⟩)
     | (go_at_call_of 21 (#[Value.agg #[Value.int IntKind.i64 (whi a), Value.int IntKind.u64 (wlo a)], Value.agg #[Value.int IntKind.i64 (whi (b + c)), Value.int IntKind.u64 (wlo (b + c))]] : Array Value); refine (c3.out _).mono ?_; rintro e w' ⟨rfl, hb⟩)
     | (go_at_call_of 20 (#[Value.int IntKind.i64 0] : Array Value); refine (c4.out _).mono ?_; rintro e w' ⟨rfl, hb⟩)
     | (go_at_call_of 21 (#[Value.agg #[Value.int IntKind.i64 (whi a), Value.int IntKind.u64 (wlo a)], Value.agg #[Value.int IntKind.i64 (whi 0), Value.int IntKind.u64 (wlo 0)]] : Array Value); refine (c5.out _).mono ?_; rintro e w' ⟨rfl, hb⟩))
  clear k0 k1 k2 k3 k4 k5 k6 k7
  go_wp2_with fail
  go_region_held3 (fun w' => Below (w2.heap.size + 1) W w' ∧ w'.cell? ⟨w.heap.size, 0, none⟩ = some (.int .i64 (whi a)) ∧ w'.cell? ⟨w.heap.size, 1, none⟩ = some (.int .u64 (wlo a)) ∧ w'.cell? ⟨w.heap.size + 1, 0, none⟩ = some (.int .i64 (whi b)) ∧ w'.cell? ⟨w.heap.size + 1, 1, none⟩ = some (.int .u64 (wlo b)) ∧ w'.cell? ⟨w.heap.size + 1 + 1, 0, none⟩ = some (.int .i64 (whi c)) ∧ w'.cell? ⟨w.heap.size + 1 + 1, 1, none⟩ = some (.int .u64 (wlo c)) ∧ w'.cell? ⟨w2.heap.size, 0, none⟩ = some (.int .i64 (whi (a + b))) ∧ w'.cell? ⟨w2.heap.size, 1, none⟩ = some (.int .u64 (wlo (a + b))))
    (first | exact HS.out _ (Below.drew (And.left (by assumption))) | exact HS.out _ (keepB hB (And.left (by assumption)) hb))
    (first
     | (go_at_call_of 25 (#[Value.agg #[Value.int IntKind.i64 (whi a), Value.int IntKind.u64 (wlo a)]] : Array Value); refine (c6.out _).mono ?_; rintro e w' ⟨rfl, hb⟩)
     | (go_at_call_of 21 (#[Value.agg #[Value.int IntKind.i64 (whi a), Value.int IntKind.u64 (wlo a)], Value.agg #[Value.int IntKind.i64 (whi (-a)), Value.int IntKind.u64 (wlo (-a))]] : Array Value); refine (c7.out _).mono ?_; rintro e w' ⟨rfl, hb⟩)
     | (go_at_call_of 20 (#[Value.int IntKind.i64 0] : Array Value); refine (c8.out _).mono ?_; rintro e w' ⟨rfl, hb⟩)
     | (go_at_call_of 23 (#[Value.agg #[Value.int IntKind.i64 (whi a), Value.int IntKind.u64 (wlo a)], Value.agg #[Value.int IntKind.i64 (whi b), Value.int IntKind.u64 (wlo b)]] : Array Value); refine (c9.out _).mono ?_; rintro e w' ⟨rfl, hb⟩)
     | (go_at_call_of 25 (#[Value.agg #[Value.int IntKind.i64 (whi b), Value.int IntKind.u64 (wlo b)]] : Array Value); refine (c10.out _).mono ?_; rintro e w' ⟨rfl, hb⟩)
     | (go_at_call_of 21 (#[Value.agg #[Value.int IntKind.i64 (whi a), Value.int IntKind.u64 (wlo a)], Value.agg #[Value.int IntKind.i64 (whi (-b)), Value.int IntKind.u64 (wlo (-b))]] : Array Value); refine (c11.out _).mono ?_; rintro e w' ⟨rfl, hb⟩)
     | (go_at_call_of 25 (#[Value.agg #[Value.int IntKind.i64 (whi (-a)), Value.int IntKind.u64 (wlo (-a))]] : Array Value); refine (c12.out _).mono ?_; rintro e w' ⟨rfl, hb⟩))
  go_wp2_with fail
  go_region_held3 (fun w' => Below (w2.heap.size + 1) W w' ∧ w'.cell? ⟨w.heap.size, 0, none⟩ = some (.int .i64 (whi a)) ∧ w'.cell? ⟨w.heap.size, 1, none⟩ = some (.int .u64 (wlo a)) ∧ w'.cell? ⟨w.heap.size + 1, 0, none⟩ = some (.int .i64 (whi b)) ∧ w'.cell? ⟨w.heap.size + 1, 1, none⟩ = some (.int .u64 (wlo b)) ∧ w'.cell? ⟨w.heap.size + 1 + 1, 0, none⟩ = some (.int .i64 (whi c)) ∧ w'.cell? ⟨w.heap.size + 1 + 1, 1, none⟩ = some (.int .u64 (wlo c)) ∧ w'.cell? ⟨w2.heap.size, 0, none⟩ = some (.int .i64 (whi (a + b))) ∧ w'.cell? ⟨w2.heap.size, 1, none⟩ = some (.int .u64 (wlo (a + b))))
    (first | exact HS.out _ (Below.drew (And.left (by assumption))) | exact HS.out _ (keepB hB (And.left (by assumption)) hb))
    (first
     | (go_at_call_of 16 (#[Value.agg #[Value.int IntKind.i64 (whi (a + b)), Value.int IntKind.u64 (wlo (a + b))], Value.int IntKind.i64 n] : Array Value); refine (c13.out _).mono ?_; rintro e w' ⟨rfl, hb⟩)
     | (go_at_call_of 16 (#[Value.agg #[Value.int IntKind.i64 (whi a), Value.int IntKind.u64 (wlo a)], Value.int IntKind.i64 n] : Array Value); refine (c14.out _).mono ?_; rintro e w' ⟨rfl, hb⟩)
     | (go_at_call_of 16 (#[Value.agg #[Value.int IntKind.i64 (whi b), Value.int IntKind.u64 (wlo b)], Value.int IntKind.i64 n] : Array Value); refine (c15.out _).mono ?_; rintro e w' ⟨rfl, hb⟩)
     | (go_at_call_of 21 (#[Value.agg #[Value.int IntKind.i64 (whi (a * n)), Value.int IntKind.u64 (wlo (a * n))], Value.agg #[Value.int IntKind.i64 (whi (b * n)), Value.int IntKind.u64 (wlo (b * n))]] : Array Value); refine (c16.out _).mono ?_; rintro e w' ⟨rfl, hb⟩)
     | (go_at_call_of 16 (#[Value.agg #[Value.int IntKind.i64 (whi a), Value.int IntKind.u64 (wlo a)], Value.int IntKind.i64 1] : Array Value); refine (c17.out _).mono ?_; rintro e w' ⟨rfl, hb⟩)
     | (go_at_call_of 25 (#[Value.agg #[Value.int IntKind.i64 (whi a), Value.int IntKind.u64 (wlo a)]] : Array Value); refine (c19.out _).mono ?_; rintro e w' ⟨rfl, hb⟩)
     | (go_at_call 16; refine (c18.out _).mono ?_; rintro e w' ⟨rfl, hb⟩))
  have HL : Below (w2.heap.size + 1) W w' := And.left (by assumption)
  go_wp2_with fail
  go_ret
  exact ⟨rfl, HB.trans (HL.mono (by omega))⟩
end Go.Proofs.Ytjjibddpgjoeeaa
