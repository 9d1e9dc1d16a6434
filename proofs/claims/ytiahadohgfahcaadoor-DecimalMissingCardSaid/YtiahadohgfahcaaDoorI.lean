import Derived.Test.YtiahadohgfahcaaDoorB
namespace Go.Proofs.YtiahadohgfahcaaDoor
open Go.ChangeShapes Go.WideShapes Go.ChangeAt Go.RowKit

theorem i64_and1 (n : Int) : bits .and .i64 n 1 = n % 2 := by
  have h1 : (BitVec.ofInt 64 1).toNat = 2 ^ 1 - 1 := by decide
  have key : (BitVec.ofInt 64 n &&& BitVec.ofInt 64 1).toNat = (n % ((2 ^ 64 : Nat) : Int)).toNat % 2 ^ 1 := by
    rw [BitVec.toNat_and, BitVec.toNat_ofInt, h1, Nat.and_two_pow_sub_one_eq_mod]
  show IntKind.i64.wrap ((BitVec.ofInt 64 n &&& BitVec.ofInt 64 1).toNat : Nat) = n % 2
  rw [key, IntKind.wrap_i64]
  omega

/-- What ToInt returns. -/
def toR (n : Int) : Int := if 1000000 < 2 * (n % 1000000) ∨ 2 * (n % 1000000) = 1000000 ∧ n / 1000000 % 2 = 1 then n / 1000000 + 1 else n / 1000000

/-- The quotient and the remainder that Go computes. -/
theorem cutoff (n : Int) : n = n.tdiv 1000000 * 1000000 + n.tmod 1000000 ∧ n.tmod 1000000 < 1000000 ∧ -1000000 < n.tmod 1000000 ∧ (0 ≤ n → 0 ≤ n.tmod 1000000) ∧ (n < 0 → n.tmod 1000000 ≤ 0) := by
  have h := Int.mul_tdiv_add_tmod n 1000000
  have h1 : 0 ≤ n → 0 ≤ n.tmod 1000000 := fun k => Int.tmod_nonneg _ k
  have h2 : n < 0 → n.tmod 1000000 ≤ 0 := fun k => by
    have e : n.tmod 1000000 = -((-n).tmod 1000000) := by rw [Int.neg_tmod, Int.neg_neg]
    have := Int.tmod_nonneg 1000000 (show 0 ≤ -n by omega)
    omega
  have h3 : n.tmod 1000000 < 1000000 := Int.tmod_lt_of_pos _ (by decide)
  have h4 : -1000000 < n.tmod 1000000 := by
    have e : n.tmod 1000000 = -((-n).tmod 1000000) := by rw [Int.neg_tmod, Int.neg_neg]
    have := Int.tmod_lt_of_pos (-n) (show (0:Int) < 1000000 by decide)
    omega
  exact ⟨by omega, h3, h4, h1, h2⟩

theorem odd_tmod (q : Int) : q.tmod 2 = 0 ↔ q % 2 = 0 := by
  have h := Int.mul_tdiv_add_tmod q 2
  have h3 : q.tmod 2 < 2 := Int.tmod_lt_of_pos _ (by decide)
  have h4 : -2 < q.tmod 2 := by
    have e : q.tmod 2 = -((-q).tmod 2) := by rw [Int.neg_tmod, Int.neg_neg]
    have := Int.tmod_lt_of_pos (-q) (show (0:Int) < 2 by decide)
    omega
  omega

theorem toInt_any (n : Int) (w : World) (n1 : -9223372036854775808 ≤ n) (n2 : n ≤ 9223372036854775807) :
    Calls Tryd.prog 11 #[.int .i64 n] w fun e w' => e = .returned (.int .i64 (toR n)) ∧ w = w' := by
  obtain ⟨c1, c2, c3, c4, c5⟩ := cutoff n
  have c6 := odd_tmod (n.tdiv 1000000)
  have q1 : -9223372036855 ≤ n.tdiv 1000000 := by omega
  have q2 : n.tdiv 1000000 ≤ 9223372036855 := by omega
  have H := Lib.hid c1
  have H4 := Lib.hid c4
  have H5 := Lib.hid c5
  have H6 := Lib.hid c6
  clear c1 c4 c5 c6
  go_enter Tryd.func11, Tryd.ntmps11
  go_wp2
  all_goals
    go_ret
    refine ⟨congrArg Ending.returned (congrArg (Value.int IntKind.i64) ?_), rfl⟩
    have c1 := H.out
    have c4 := H4.out
    have c5 := H5.out
    have c6 := H6.out
    clear H H4 H5 H6
    try simp only [i64_and1, beq_iff_eq, beq_eq_false_iff_ne, ne_eq] at *
    generalize (n.tdiv 1000000).tmod 2 = m at *
    generalize n.tdiv 1000000 = q at *
    generalize n.tmod 1000000 = r at *
    unfold toR
    split <;> omega

theorem refToInt_any (n : Int) (w : World) (n1 : -9223372036854775808 ≤ n) (n2 : n ≤ 9223372036854775807) :
    Calls Tryd.prog 12 #[.int .i64 n] w fun e w' => e = .returned (.int .i64 (toR n)) ∧ w = w' := by
  obtain ⟨c1, c2, c3, c4, c5⟩ := cutoff n
  have c6 := odd_tmod (n.tdiv 1000000)
  have q1 : -9223372036855 ≤ n.tdiv 1000000 := by omega
  have q2 : n.tdiv 1000000 ≤ 9223372036855 := by omega
  have H := Lib.hid c1
  have H4 := Lib.hid c4
  have H5 := Lib.hid c5
  have H6 := Lib.hid c6
  clear c1 c4 c5 c6
  go_enter Tryd.func12, Tryd.ntmps12
  go_wp2
  all_goals
    go_ret
    refine ⟨congrArg Ending.returned (congrArg (Value.int IntKind.i64) ?_), rfl⟩
    have c1 := H.out
    have c4 := H4.out
    have c5 := H5.out
    have c6 := H6.out
    clear H H4 H5 H6
    try simp only [ne_eq, bne_iff_ne, bne_eq_false_iff_eq] at *
    generalize (n.tdiv 1000000).tmod 2 = m at *
    generalize n.tdiv 1000000 = q at *
    generalize n.tmod 1000000 = r at *
    unfold toR
    split <;> omega

end Go.Proofs.YtiahadohgfahcaaDoor
