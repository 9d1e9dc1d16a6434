import Derived.Test.YtiahadohgfahcaaDoorRows
import Derived.Test.YtiahadohgfahcaaDoorPlain
import Derived.WalkKit
import Derived.ProofKit
import Derived.OpenShut
import Derived.Shelf.Spec.BitsCarry
import Derived.Lib.Mul64
import Derived.Lib.Hide
import Derived.Deep.QuietTactic
import Derived.BigQuiet
import Derived.Outline
namespace Go.Proofs.YtiahadohgfahcaaDoor
open Go.ChangeShapes Go.WideShapes Go.ChangeAt Go.RowKit

theorem u64w (x : Int) : IntKind.u64.wrap x = x % 18446744073709551616 := IntKind.wrap_u64 x
theorem i64w (x : Int) : IntKind.i64.wrap x = (x + 9223372036854775808) % 18446744073709551616 - 9223372036854775808 := IntKind.wrap_i64 x

theorem of_any (n : Int) (w : World) (h1 : -9223372036854775808 ≤ n) (h2 : n ≤ 9223372036854775807) :
    Calls Tryd.prog 27 #[.int .i64 n] w fun e w' => e = .returned (.agg #[.int .i64 (whi n), .int .u64 (wlo n)]) ∧ Below w.heap.size w w' := by
  go_enter Tryd.func27, Tryd.ntmps27
  go_wp2
  refine bodyPost_ret (v := .agg #[.int .i64 (whi n), .int .u64 (wlo n)]) ?_ rfl ⟨rfl, (Below.refl _ _).alloc (Nat.le_refl _) _⟩
  have e1 : whi n = n / 9223372036854775808 := by unfold whi; omega
  have e2 : wlo n = IntKind.u64.wrap n := by rw [IntKind.wrap_u64]; rfl
  rw [e1, e2]
  simp [results, Tryd.results27, go_sem]

theorem bcell {W w1 : World} (hb : Below W.heap.size W w1) : (∀ b o, b < W.heap.size → w1.cell? ⟨b, o, none⟩ = W.cell? ⟨b, o, none⟩) ∧ (∀ b o, b < W.heap.size → w1.frozen? ⟨b, o, none⟩ = W.frozen? ⟨b, o, none⟩) :=
  ⟨fun b o h => hb.cell (p := ⟨b, o, none⟩) h, fun b o h => hb.frozen (p := ⟨b, o, none⟩) h⟩

/-! Mul64: the school method on halves of 32 bits. -/
namespace Mul64
theorem maskN (a : Nat) (ha : a < 18446744073709551616) : bits .and .u64 (a : Int) 4294967295 = ((a % 4294967296 : Nat) : Int) := by
  have h := bits_and_u64_nat a 4294967295 ha (by omega)
  have e : a &&& 4294967295 = a % 4294967296 := Nat.and_two_pow_sub_one_eq_mod a 32
  rw [e] at h
  exact h
theorem divN (a : Nat) : (a : Int) / 4294967296 = ((a / 4294967296 : Nat) : Int) := by omega
theorem mulN (a b : Nat) : (a : Int) * (b : Int) = ((a * b : Nat) : Int) := (Int.natCast_mul a b).symm
theorem addN (a b : Nat) : (a : Int) + (b : Int) = ((a + b : Nat) : Int) := (Int.natCast_add a b).symm
theorem wrapN (a : Nat) (ha : a < 18446744073709551616) : IntKind.u64.wrap (a : Int) = (a : Int) := by rw [IntKind.wrap_u64]; omega
theorem wrapM (a : Nat) : IntKind.u64.wrap (a : Int) = ((a % 18446744073709551616 : Nat) : Int) := by rw [IntKind.wrap_u64]; omega
end Mul64

set_option maxHeartbeats 1000000 in
theorem mul64_nat (x y : Nat) (hx : x < 18446744073709551616) (hy : y < 18446744073709551616) (w : World) :
    Calls Tryd.prog 31 #[.int .u64 x, .int .u64 y] w fun e w' => e = .returned (.tuple #[.int .u64 ((x * y / 18446744073709551616 : Nat) : Int), .int .u64 ((x * y % 18446744073709551616 : Nat) : Int)]) ∧ w = w' := by
  obtain ⟨bd, bt, bw, hhi⟩ := Lib.mul64_hi x y hx hy
  have ba := Lib.half_mul_le (a := x / 4294967296) (b := y / 4294967296) (by omega) (by omega)
  have bb := Lib.half_mul_le (a := x / 4294967296) (b := y % 4294967296) (by omega) (by omega)
  have bc := Lib.half_mul_le (a := x % 4294967296) (b := y / 4294967296) (by omega) (by omega)
  have ba' : x / 4294967296 * (y / 4294967296) < 18446744073709551616 := by omega
  have bb' : x / 4294967296 * (y % 4294967296) < 18446744073709551616 := by omega
  have bc' : x % 4294967296 * (y / 4294967296) < 18446744073709551616 := by omega
  have bh1 : x / 4294967296 * (y / 4294967296) + (x / 4294967296 * (y % 4294967296) + x % 4294967296 * (y % 4294967296) / 4294967296) / 4294967296 < 18446744073709551616 := by omega
  have bh : x / 4294967296 * (y / 4294967296) + (x / 4294967296 * (y % 4294967296) + x % 4294967296 * (y % 4294967296) / 4294967296) / 4294967296 + ((x / 4294967296 * (y % 4294967296) + x % 4294967296 * (y % 4294967296) / 4294967296) % 4294967296 + x % 4294967296 * (y / 4294967296)) / 4294967296 < 18446744073709551616 := by omega
  go_enter Tryd.func31, Tryd.ntmps31
  go_wp2
  simp only [Mul64.maskN x hx, Mul64.maskN y hy, Mul64.divN, Mul64.mulN, Mul64.addN, Mul64.wrapN _ bd, Mul64.wrapN _ bb', Mul64.wrapN _ bt, Mul64.maskN _ bt, Mul64.wrapN _ bc', Mul64.wrapN _ bw, Mul64.wrapN _ ba', Mul64.wrapN _ bh1, Mul64.wrapN _ bh, Mul64.wrapM (x * y)]
  rw [hhi]
  go_ret2
  exact ⟨rfl, rfl⟩

theorem mul64_any (x y : Int) (hx : 0 ≤ x) (hx2 : x ≤ 18446744073709551615) (hy : 0 ≤ y) (hy2 : y ≤ 18446744073709551615) (w : World) :
    Calls Tryd.prog 31 #[.int .u64 x, .int .u64 y] w fun e w' => e = .returned (.tuple #[.int .u64 (x * y / 18446744073709551616), .int .u64 (x * y % 18446744073709551616)]) ∧ w = w' := by
  obtain ⟨x, rfl⟩ := Int.eq_ofNat_of_zero_le hx
  obtain ⟨y, rfl⟩ := Int.eq_ofNat_of_zero_le hy
  refine (mul64_nat x y (by omega) (by omega) w).mono ?_
  rintro e w' ⟨rfl, rfl⟩
  refine ⟨?_, rfl⟩
  rw [Int.natCast_ediv, Int.natCast_emod, Int.natCast_mul]
  rfl

theorem scale_neg (a n : Int) (h1 : -9223372036854775808 ≤ n) (hn : n < 0) (w : World) :
    Calls Tryd.prog 26 #[.agg #[.int .i64 (whi a), .int .u64 (wlo a)], .int .i64 n] w fun e w' => e = .returned (.agg #[.int .i64 (whi (a * n)), .int .u64 (wlo (a * n))]) ∧ Below w.heap.size w w' := by
  have la := wlo_lo a; have ma := wlo_hi a; have ka := whi_lo a; have na := whi_hi a
  have u1 : 0 ≤ IntKind.u64.wrap n := by rw [u64w]; omega
  have u2 : IntKind.u64.wrap n ≤ 18446744073709551615 := by rw [u64w]; omega
  have g1 : Hid (wlo a * IntKind.u64.wrap n % 18446744073709551616 = wlo (a * n)) := by rw [u64w]; exact scale_lo a n
  have m1 := Lib.hid (fun w => mul64_any (wlo a) (IntKind.u64.wrap n) la ma u1 u2 w)
  have g2 : Hid (wrap64 (IntKind.u64.wrap (IntKind.u64.wrap (wlo a * IntKind.u64.wrap n / 18446744073709551616 + IntKind.u64.wrap (IntKind.u64.wrap (whi a) * IntKind.u64.wrap n)) - wlo a)) = whi (a * n)) := by
    simp only [wrap64, u64w]; exact scale_hi_neg a n h1 hn
  go_enter Tryd.func26, Tryd.ntmps26
  go_wp2_with (go_at_call 31; refine (m1.out _).mono ?_; rintro e w' ⟨rfl, rfl⟩)
  rw [g2.out, g1.out]
  exact bodyPost_ret (v := .agg #[.int .i64 (whi (a * n)), .int .u64 (wlo (a * n))]) (by simp [results, Tryd.results26, go_sem]) rfl ⟨rfl, ((Below.refl _ _).alloc (Nat.le_refl _) _).alloc (by simp) _⟩
theorem scale_pos (a n : Int) (h2 : n ≤ 9223372036854775807) (hn : ¬ n < 0) (w : World) :
    Calls Tryd.prog 26 #[.agg #[.int .i64 (whi a), .int .u64 (wlo a)], .int .i64 n] w fun e w' => e = .returned (.agg #[.int .i64 (whi (a * n)), .int .u64 (wlo (a * n))]) ∧ Below w.heap.size w w' := by
  have la := wlo_lo a; have ma := wlo_hi a; have ka := whi_lo a; have na := whi_hi a
  have g1 : Hid (wlo a * n % 18446744073709551616 = wlo (a * n)) := by
    have := scale_lo a n; rw [Int.emod_eq_of_lt (a := n) (by omega) (by omega)] at this; exact this
  have m1 := Lib.hid (fun w => mul64_any (wlo a) n la ma (by omega) (by omega) w)
  have g2 : Hid (wrap64 (IntKind.u64.wrap (wlo a * n / 18446744073709551616 + IntKind.u64.wrap (IntKind.u64.wrap (whi a) * n))) = whi (a * n)) := by
    simp only [wrap64, u64w]
    have := scale_hi_pos a n h2 (by omega)
    rw [Int.emod_eq_of_lt (a := n) (by omega) (by omega)] at this; exact this
  go_enter Tryd.func26, Tryd.ntmps26
  go_wp2_with (go_at_call 31; refine (m1.out _).mono ?_; rintro e w' ⟨rfl, rfl⟩)
  rw [g2.out, g1.out]
  exact bodyPost_ret (v := .agg #[.int .i64 (whi (a * n)), .int .u64 (wlo (a * n))]) (by simp [results, Tryd.results26, go_sem]) rfl ⟨rfl, ((Below.refl _ _).alloc (Nat.le_refl _) _).alloc (by simp) _⟩
theorem scale_any (a n : Int) (h1 : -9223372036854775808 ≤ n) (h2 : n ≤ 9223372036854775807) (w : World) :
    Calls Tryd.prog 26 #[.agg #[.int .i64 (whi a), .int .u64 (wlo a)], .int .i64 n] w fun e w' => e = .returned (.agg #[.int .i64 (whi (a * n)), .int .u64 (wlo (a * n))]) ∧ Below w.heap.size w w' := by
  by_cases hn : n < 0
  · exact scale_neg a n h1 hn w
  · exact scale_pos a n h2 hn w

theorem mul_any (a b : Int) (h1 : -9223372036854775808 ≤ a) (h2 : a ≤ 9223372036854775807) (h3 : -9223372036854775808 ≤ b) (h4 : b ≤ 9223372036854775807) (w : World) :
    Calls Tryd.prog 20 #[.int .i64 a, .int .i64 b] w fun e w' => e = .returned (.agg #[.int .i64 (whi (a * b)), .int .u64 (wlo (a * b))]) ∧ Below w.heap.size w w' := by
  go_enter Tryd.func20, Tryd.ntmps20
  go_wp2_with fail
  refine (of_any a _ h1 h2).mono ?_
  rintro e w1 ⟨rfl, hb1⟩
  have hz1 := hb1.size
  obtain ⟨hc1, hf1⟩ := bcell hb1
  simp at hz1
  have hlt1 : w.heap.size < w1.heap.size := by omega
  go_wp2_with fail
  refine (scale_any a b h3 h4 _).mono ?_
  rintro e w2 ⟨rfl, hb2⟩
  have hz2 := hb2.size
  obtain ⟨hc2, hf2⟩ := bcell hb2
  go_wp2_with fail
  refine bodyPost_ret (v := .agg #[.int .i64 (whi (a * b)), .int .u64 (wlo (a * b))]) ?_ rfl ⟨rfl, (((((Below.refl _ _).alloc (Nat.le_refl _) _).trans (hb1.mono (by simp))).trans (hb2.mono (by omega))).setCell (by simp) _).setCell (by simp) _⟩
  simp [results, Tryd.results20, go_sem, hc1, hlt1, hc2]

theorem compare_lt (a b : Int) (h : norm a < norm b) (w : World) :
    Calls Tryd.prog 19 #[.agg #[.int .i64 (whi a), .int .u64 (wlo a)], .agg #[.int .i64 (whi b), .int .u64 (wlo b)]] w fun e w' => e = .returned (.int .i64 (-1)) ∧ Below w.heap.size w w' := by
  rcases (norm_lt a b).1 h with h | ⟨h, k⟩
  · have e1 : (whi a == whi b) = false := by simp; omega
    go_enter Tryd.func19, Tryd.ntmps19
    go_wp2
    go_ret
    exact ⟨rfl, ((Below.refl _ _).alloc (Nat.le_refl _) _).alloc (by simp) _⟩
  · have e1 : (whi a == whi b) = true := by simp; omega
    have e2 : (wlo a == wlo b) = false := by simp; omega
    have e3 : ¬ whi a < whi b := by omega
    clear h
    go_enter Tryd.func19, Tryd.ntmps19
    go_wp2
    go_ret
    exact ⟨rfl, ((Below.refl _ _).alloc (Nat.le_refl _) _).alloc (by simp) _⟩
theorem compare_eq (a b : Int) (h : norm a = norm b) (w : World) :
    Calls Tryd.prog 19 #[.agg #[.int .i64 (whi a), .int .u64 (wlo a)], .agg #[.int .i64 (whi b), .int .u64 (wlo b)]] w fun e w' => e = .returned (.int .i64 0) ∧ Below w.heap.size w w' := by
  obtain ⟨h, k⟩ := (norm_eq a b).1 h
  have e1 : (whi a == whi b) = true := by simp; omega
  have e2 : (wlo a == wlo b) = true := by simp; omega
  clear h k
  go_enter Tryd.func19, Tryd.ntmps19
  go_wp2
  go_ret
  exact ⟨rfl, ((Below.refl _ _).alloc (Nat.le_refl _) _).alloc (by simp) _⟩
theorem compare_gt (a b : Int) (h : norm b < norm a) (w : World) :
    Calls Tryd.prog 19 #[.agg #[.int .i64 (whi a), .int .u64 (wlo a)], .agg #[.int .i64 (whi b), .int .u64 (wlo b)]] w fun e w' => e = .returned (.int .i64 1) ∧ Below w.heap.size w w' := by
  rcases (norm_lt b a).1 h with h | ⟨h, k⟩
  · have e1 : (whi a == whi b) = false := by simp; omega
    have e3 : ¬ whi a < whi b := by omega
    go_enter Tryd.func19, Tryd.ntmps19
    go_wp2
    go_ret
    exact ⟨rfl, ((Below.refl _ _).alloc (Nat.le_refl _) _).alloc (by simp) _⟩
  · have e1 : (whi a == whi b) = true := by simp; omega
    have e2 : (wlo a == wlo b) = false := by simp; omega
    have e3 : ¬ whi a < whi b := by omega
    have e4 : ¬ wlo a < wlo b := by omega
    clear h
    go_enter Tryd.func19, Tryd.ntmps19
    go_wp2
    go_ret
    exact ⟨rfl, ((Below.refl _ _).alloc (Nat.le_refl _) _).alloc (by simp) _⟩
theorem compare_any (a b : Int) (w : World) :
    Calls Tryd.prog 19 #[.agg #[.int .i64 (whi a), .int .u64 (wlo a)], .agg #[.int .i64 (whi b), .int .u64 (wlo b)]] w fun e w' => e = .returned (.int .i64 (cmp3 (norm a) (norm b))) ∧ Below w.heap.size w w' := by
  unfold cmp3
  by_cases h1 : norm a < norm b
  · rw [if_pos h1]; exact compare_lt a b h1 w
  · rw [if_neg h1]
    by_cases h2 : norm a = norm b
    · rw [if_pos h2]; exact compare_eq a b h2 w
    · rw [if_neg h2]; exact compare_gt a b (by omega) w

set_option linter.unusedVariables false

theorem below_drewN {B : Nat} {a w : World} (h : Below B a w) (n : Nat) : Below B a (w.drewN n) := ⟨h.os, h.tape, h.output, h.size, h.block⟩
theorem div64_small (lo y : Int) (h1 : 0 ≤ lo) (h2 : lo ≤ 18446744073709551615) (h3 : 1 ≤ y) (h4 : y ≤ 18446744073709551615) (w : World) :
    Calls Tryd.prog 32 #[.int .u64 0, .int .u64 lo, .int .u64 y] w fun e w' => e = .returned (.tuple #[.int .u64 (lo / y), .int .u64 (lo % y)]) ∧ Below w.heap.size w w' := by
  have e1 : (y == 0) = false := by simp; omega
  have e2 : ¬ y ≤ 0 := by omega
  go_enter Tryd.func32, Tryd.ntmps32
  go_wp2
  go_quiet (fail)
  go_wp2
  go_ret2
  exact ⟨rfl, below_drewN (Below.refl _ _) _⟩

end Go.Proofs.YtiahadohgfahcaaDoor
