/-
  Plain arithmetic of sums over a range: read backwards, or from another place on, a sum stays what it is. No program in sight.
-/
namespace Go.Proofs.Ytjjibddpgjoeeaa

def sumTo (f : Nat → Int) : Nat → Int
  | 0 => 0
  | n + 1 => sumTo f n + f n

theorem sumTo_congr (f g : Nat → Int) : ∀ n, (∀ j, j < n → f j = g j) → sumTo f n = sumTo g n
  | 0, _ => rfl
  | n + 1, h => by rw [sumTo, sumTo, sumTo_congr f g n (fun j hj => h j (by omega)), h n (by omega)]
theorem sumTo_front (f : Nat → Int) : ∀ n, sumTo f (n + 1) = f 0 + sumTo (fun j => f (j + 1)) n
  | 0 => by simp [sumTo]
  | n + 1 => by rw [sumTo, sumTo_front f n, sumTo]; omega
theorem sumTo_rev (f : Nat → Int) : ∀ n, sumTo (fun j => f (n - 1 - j)) n = sumTo f n
  | 0 => rfl
  | n + 1 => by
    rw [sumTo_front, sumTo, Int.add_comm, ← sumTo_rev f n]
    congr 1
    exact sumTo_congr _ _ n (fun j hj => by congr 1; omega)
theorem sumTo_add (f : Nat → Int) (m : Nat) : ∀ n, sumTo f (m + n) = sumTo f m + sumTo (fun j => f (m + j)) n
  | 0 => by simp [sumTo]
  | n + 1 => by rw [← Nat.add_assoc, sumTo, sumTo_add f m n, sumTo]; omega
/-- From another place on, round the end. -/
theorem sumTo_rot (f : Nat → Int) (n c : Nat) (hc : c < n) : sumTo (fun j => f ((j + c) % n)) n = sumTo f n := by
  have h1 : sumTo (fun j => f ((j + c) % n)) ((n - c) + c) = sumTo (fun j => f ((j + c) % n)) (n - c) + sumTo (fun j => f (((n - c) + j + c) % n)) c := sumTo_add _ _ _
  have h2 : sumTo f (c + (n - c)) = sumTo f c + sumTo (fun j => f (c + j)) (n - c) := sumTo_add _ _ _
  rw [show n - c + c = n by omega] at h1
  rw [show c + (n - c) = n by omega] at h2
  rw [h1, h2, Int.add_comm]
  congr 1
  · exact sumTo_congr _ _ _ (fun j hj => by
      show f ((n - c + j + c) % n) = f j
      rw [show n - c + j + c = j + n by omega, Nat.add_mod_right, Nat.mod_eq_of_lt (by omega)])
  · exact sumTo_congr _ _ _ (fun j hj => by
      show f ((j + c) % n) = f (c + j)
      rw [Nat.mod_eq_of_lt (by omega), Nat.add_comm])
theorem sumTo_rot' (f : Nat → Int) (n c : Nat) (hn : 0 < n) : sumTo (fun j => f ((j + c) % n)) n = sumTo f n := by
  rw [← sumTo_rot f n (c % n) (Nat.mod_lt _ hn)]
  exact sumTo_congr _ _ _ (fun j hj => by rw [Nat.add_mod_mod])
end Go.Proofs.Ytjjibddpgjoeeaa
