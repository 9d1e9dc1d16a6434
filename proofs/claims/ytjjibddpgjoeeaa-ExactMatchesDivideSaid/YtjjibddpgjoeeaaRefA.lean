import Derived.Test.YtjjibddpgjoeeaaRoundsWalk
import Derived.Test.YtjjibddpgjoeeaaDigits
namespace Go.Proofs.Ytjjibddpgjoeeaa
open Go.ChangeShapes Go.WideShapes Go.ChangeAt Go.RowKit

theorem info3 : (Try.prog.info? 3).map (fun i => (i.zero, i.size, i.bytes)) = some (some (.int .i64 0), 1, 8) := by kernel_rfl
/-- A row of integers as cells. -/
def row (f : Nat → Int) (n : Nat) : List Value := (List.range n).map fun i => .int .i64 (f i)
theorem row_succ (f : Nat → Int) (n : Nat) : row f (n + 1) = row f n ++ [.int .i64 (f n)] := by simp [row, List.range_succ]
theorem row_get (f : Nat → Int) (n i : Nat) (h : i < n) : (row f n)[i]? = some (.int .i64 (f i)) := by simp [row, h]
theorem row_length (f : Nat → Int) (n : Nat) : (row f n).length = n := by simp [row]
/-- Hands back a row of eight integers in new memory. -/
def RowOut (w : World) (f : Nat → Int) (e : Ending) (w' : World) : Prop := ∃ v, e = .returned v ∧ w'.ownsRow w.heap.size 3 1 v 8 (row f 8) ∧ Below w.heap.size w w'
theorem new_cell (w : World) (x : Int) (t : TypeId) : ∀ (j : Nat) (u : Value), [Value.int IntKind.i64 x][j]? = some u → (w.alloc (Obj.cells #[Value.int IntKind.i64 x] t)).cell? ((⟨w.heap.size, 0, none⟩ : Addr).add j) = some u := by
  intro j u h
  match j, h with
  | 0, h =>
    simp at h
    subst h
    simp [Addr.add, go_sem]
theorem one_ok (x : Int) : ∀ u, u ∈ [Value.int IntKind.i64 x] → u.oneCell' = true := by
  intro u h
  simp at h
  subst h
  rfl
theorem own_block {w : World} {B : Nat} {v : Value} {n : Nat} {xs : List Value} (h : w.ownsRow B 3 1 v n xs) : ∀ k, v.ownBlock = some k → B ≤ k := by
  intro k hk
  rcases h.2 with ⟨rfl, _⟩ | ⟨g, cap, cur, rfl, hb, _⟩
  · cases hk
  · simp [Value.ownBlock] at hk; omega
theorem own_none (w : World) (B : Nat) : w.ownsRow B 3 1 (.slice none 0 0) 0 [] := ⟨rfl, Or.inl ⟨rfl, rfl⟩⟩

set_option maxHeartbeats 2000000 in
set_option maxRecDepth 100000 in
theorem digits_any (a : Int) (w : World) : Calls Try.prog 32 #[.agg #[.int .i64 (whi a), .int .u64 (wlo a)]] w (RowOut w (dgt a)) := by
  obtain ⟨i0, hi, hz0, hz1, hz2⟩ := info_parts info3
  have l0 := wlo_lo a; have l1 := wlo_hi a
  have u0 : 0 ≤ whi a % 18446744073709551616 := by omega
  have u1 : whi a % 18446744073709551616 ≤ 18446744073709551615 := by omega
  have uw : IntKind.u64.wrap (whi a) = whi a % 18446744073709551616 := u64w _
  have hD1 : ∀ k, k < 4 → dgt a k = lod (wlo a) k % 65536 := fun k hk => by unfold dgt; rw [if_pos hk]
  have hD2 : ∀ k, dgt a (4 + k) = lod (whi a % 18446744073709551616) k % 65536 := fun k => by unfold dgt; rw [if_neg (by omega), Nat.add_sub_cancel_left]
  have HD1 := Lib.hid hD1; have HD2 := Lib.hid hD2
  clear hD1 hD2
  go_enter Try.func32, Try.ntmps32
  go_wp2_with fail
  clear uw
  generalize hu : whi a % 18446744073709551616 = u at *
  clear hu
  go_loopw [3, 4, 6] (fun v lo i wr => ∃ k : Nat, k ≤ 4 ∧ i = .int .i64 k ∧ lo = .int .u64 (lod (wlo a) k) ∧ wr.ownsRow w.heap.size 3 1 v k (row (dgt a) k) ∧ Below w.heap.size w wr) (fun _ _ i _ => 4 - (intOf i).toNat)
  case atStart => exact ⟨0, by omega, rfl, rfl, own_none _ _, (Below.refl _ _).alloc (Nat.le_refl _) _⟩
  case round =>
    obtain ⟨k, hk, rfl, rfl, hown, hB⟩ := hrel
    have b0 := lod_lo (wlo a) l0 k
    have b1 := lod_hi (wlo a) l0 l1 k
    have hBz := hB.size
    by_cases hlt : k < 4
    · go_wp2_with (at_builtin; refine wpList_append_own _ rfl _ _ 46 rfl w.heap.size 3 i0 (.int .i64 0) 1 8 Try.underlying46 hi hz0 hz1 hz2 rfl (by decide) _ _ _ rfl (hown.alloc _) ⟨wr.heap.size, 0, none⟩ 1 1 [.int .i64 (lod (wlo a) k % 65536)] rfl rfl (new_cell _ _ _) (one_ok _) (by unfold maxLen; omega) (by omega) (by simp; omega) ?_; intro v' w1 hown1 hgrow1 _)
      have hb1 : Below w.heap.size w w1 := (hB.alloc (by omega) _).grown hgrow1 (by simp; omega) (own_block hown)
      have hown2 : w1.ownsRow w.heap.size 3 1 v' (k + 1) (row (dgt a) (k + 1)) := by rw [row_succ, HD1.out k hlt]; exact hown1
      clear hown1 hgrow1 hown hB hBz
      go_wp2_with fail
      go_roundw
      case rel => exact ⟨k + 1, by omega, by go_num, rfl, hown2, hb1⟩
      case measure => simp [intOf]; omega
    · have hk4 : k = 4 := by omega
      subst hk4
      rw [show (((4 : Nat) : Int)) = (4 : Int) from rfl]
      go_wp2_with fail
      go_loopw [3, 5, 7] (fun v lo i wr => ∃ k : Nat, k ≤ 4 ∧ i = .int .i64 k ∧ lo = .int .u64 (lod u k) ∧ wr.ownsRow w.heap.size 3 1 v (4 + k) (row (dgt a) (4 + k)) ∧ Below w.heap.size w wr) (fun _ _ i _ => 4 - (intOf i).toNat)
      case atStart => exact ⟨0, by omega, rfl, rfl, hown, hB⟩
      case round =>
        clear hown hB hBz b0 b1
        obtain ⟨k, hk, rfl, rfl, hown, hB⟩ := hrel
        have b0 := lod_lo u u0 k
        have b1 := lod_hi u u0 u1 k
        have hBz := hB.size
        by_cases hlt : k < 4
        · go_wp2_with (at_builtin; refine wpList_append_own _ rfl _ _ 46 rfl w.heap.size 3 i0 (.int .i64 0) 1 8 Try.underlying46 hi hz0 hz1 hz2 rfl (by decide) _ _ _ rfl (hown.alloc _) ⟨wr.heap.size, 0, none⟩ 1 1 [.int .i64 (lod u k % 65536)] rfl rfl (new_cell _ _ _) (one_ok _) (by unfold maxLen; omega) (by omega) (by simp; omega) ?_; intro v' w1 hown1 hgrow1 _)
          have hb1 : Below w.heap.size w w1 := (hB.alloc (by omega) _).grown hgrow1 (by simp; omega) (own_block hown)
          have hown2 : w1.ownsRow w.heap.size 3 1 v' (4 + (k + 1)) (row (dgt a) (4 + (k + 1))) := by rw [← Nat.add_assoc, row_succ, HD2.out k]; exact hown1
          clear hown1 hgrow1 hown hB hBz
          go_wp2_with fail
          go_roundw
          case rel => exact ⟨k + 1, by omega, by go_num, rfl, hown2, hb1⟩
          case measure => simp [intOf]; omega
        · have hk4 : k = 4 := by omega
          subst hk4
          go_wp2_with fail
          go_ret
          exact ⟨_, rfl, hown, hB⟩
end Go.Proofs.Ytjjibddpgjoeeaa
