import Derived.Test.YtjjibddpgjoeeaaF
import Derived.Deep.DeepCutAuto
namespace Go.Proofs.Ytjjibddpgjoeeaa
open Go.ChangeShapes Go.WideShapes Go.ChangeAt Go.RowKit

/-- A cell that is there is below the heap's size: what a callee makes leaves it. -/
theorem bsome {X w' : World} (hb : Below X.heap.size X w') : (∀ p, (X.cell? p).isSome = true → w'.cell? p = X.cell? p) ∧ (∀ p, (X.cell? p).isSome = true → w'.frozen? p = X.frozen? p) := by
  have hlt : ∀ p, (X.cell? p).isSome = true → p.block < X.heap.size := by
    intro p h
    rcases Nat.lt_or_ge p.block X.heap.size with hp | hp
    · exact hp
    · have : X.heap[p.block]? = none := Array.getElem?_eq_none hp
      simp [World.cell?, this] at h
  exact ⟨fun p h => hb.cell (hlt p h), fun p h => hb.frozen (hlt p h)⟩

theorem rounds_plain (N d : Int) (hd : d ≠ 0) (hle : upq (absI N) (absI d) ≤ 1152921504606846976) :
    ∃ q, divRes N d = .tuple #[.int .i64 q, .bool true] ∧ -1152921504606846976 ≤ q ∧ q ≤ 1152921504606846976 ∧ 2 * absI (N - q * d) ≤ absI d ∧ (2 * absI (N - q * d) = absI d → q % 2 = 0) := by
  have hy : 0 < absI d := by unfold absI; split <;> omega
  have hn := absI_nonneg N
  have e1 := Int.mul_ediv_add_emod (absI N) (absI d)
  have m0 := Int.emod_nonneg (absI N) (show absI d ≠ 0 by omega)
  have m1 := Int.emod_lt_of_pos (absI N) hy
  have q0 : 0 ≤ absI N / absI d := Int.ediv_nonneg hn (by omega)
  obtain ⟨n, hnn⟩ : ∃ n, n = upq (absI N) (absI d) := ⟨_, rfl⟩
  have key : 2 * absI (absI N - n * absI d) ≤ absI d ∧ (2 * absI (absI N - n * absI d) = absI d → n % 2 = 0) ∧ 0 ≤ n := by
    unfold upq at hnn
    generalize absI N % absI d = r at *
    generalize absI N / absI d = q at *
    generalize absI d = y at *
    generalize absI N = M at *
    have hc : y * q = q * y := Int.mul_comm _ _
    split at hnn
    · rename_i hcond
      have : n * y = q * y + y := by rw [hnn, Int.add_mul, Int.one_mul]
      have e : M - n * y = r - y := by omega
      rw [e]; unfold absI
      rw [if_pos (by omega)]
      omega
    · rename_i hcond
      have : n * y = q * y := by rw [hnn]
      have e : M - n * y = r := by omega
      rw [e]; unfold absI
      rw [if_neg (by omega)]
      omega
  rw [← hnn] at hle
  unfold divRes
  rw [if_neg hd, ← hnn]
  unfold divOut
  rw [if_neg (by omega)]
  obtain ⟨k1, k2, k3⟩ := key
  clear hnn e1 m0 m1 q0
  by_cases h1 : N < 0 <;> by_cases h2 : d < 0
  · refine ⟨n, by simp [h1, h2], by omega, by omega, ?_, ?_⟩
    all_goals
      have e : absI (N - n * d) = absI (absI N - n * absI d) := by
        have a1 : absI N = -N := by unfold absI; rw [if_pos h1]
        have a2 : absI d = -d := by unfold absI; rw [if_pos h2]
        rw [a1, a2, Int.mul_neg]; unfold absI; split <;> split <;> omega
      rw [e]; assumption
  · refine ⟨-n, by simp [h1, h2], by omega, by omega, ?_, ?_⟩
    all_goals
      have e : absI (N - -n * d) = absI (absI N - n * absI d) := by
        have a1 : absI N = -N := by unfold absI; rw [if_pos h1]
        have a2 : absI d = d := by unfold absI; rw [if_neg h2]
        rw [a1, a2, Int.neg_mul]; unfold absI; split <;> split <;> omega
      rw [e]; first | assumption | (intro h; have := k2 h; omega)
  · refine ⟨-n, by simp [h1, h2], by omega, by omega, ?_, ?_⟩
    all_goals
      have e : absI (N - -n * d) = absI (absI N - n * absI d) := by
        have a1 : absI N = N := by unfold absI; rw [if_neg h1]
        have a2 : absI d = -d := by unfold absI; rw [if_pos h2]
        rw [a1, a2, Int.neg_mul, Int.mul_neg]
      rw [e]; first | assumption | (intro h; have := k2 h; omega)
  · refine ⟨n, by simp [h1, h2], by omega, by omega, ?_, ?_⟩
    all_goals
      have e : absI (N - n * d) = absI (absI N - n * absI d) := by
        have a1 : absI N = N := by unfold absI; rw [if_neg h1]
        have a2 : absI d = d := by unfold absI; rw [if_neg h2]
        rw [a1, a2]
      rw [e]; assumption
theorem rounds_none (N d : Int) (h : d = 0 ∨ 1152921504606846976 < upq (absI N) (absI d)) : divRes N d = .tuple #[.int .i64 0, .bool false] := by
  unfold divRes
  split
  · rfl
  · rw [divOut_big _ _ (by omega)]
end Go.Proofs.Ytjjibddpgjoeeaa
