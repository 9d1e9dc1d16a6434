/-
  Used, Has and the search of the cache, on whatever list of slots.
-/
import Derived.Test.YtdbfioafcpjkpaaB
namespace Go.Proofs.Ytdbfioafcpjkpaa
open Go.ChangeShapes Go.WideShapes Go.ChangeAt Go.RowKit

theorem search_none (c : Nat) (ao : Option Addr) (cap : Nat) (w : World) :
    Calls Try.prog 31 #[.slice ao 0 cap, .func (.func 32) #[] #[.pointer (some ⟨c, 0, none⟩)]] w fun e w' => e = .returned (.int .i64 (-1)) ∧ Below w.heap.size w w' := by
  go_enter Try.func31, Try.ntmps31
  go_wp2_with fail
  go_loopw [8] (fun v wr => v = .int .i64 0 ∧ wr = w) (fun _ _ => 0)
  case atStart => exact ⟨rfl, rfl⟩
  case round =>
    obtain ⟨rfl, rfl⟩ := hrel
    go_wp2_with fail
    go_ret
    exact ⟨rfl, Below.refl _ _⟩
theorem index_any (l : List Sl) (key : ByteArray) (c : Nat) (ao : Option Addr) (cap : Nat) (hl : l.length ≤ 4611686018427387904) (w : World) (h : SlotsAt w ao l) (hc : w.cell? ⟨c, 0, none⟩ = some (.string key)) :
    Calls Try.prog 28 #[.slice ao l.length cap, .func (.func 32) #[] #[.pointer (some ⟨c, 0, none⟩)]] w fun e w' => e = .returned (.int .i64 (pos key.toList l 0)) ∧ Below w.heap.size w w' := by
  have hs : Calls Try.prog 31 #[.slice ao l.length cap, .func (.func 32) #[] #[.pointer (some ⟨c, 0, none⟩)]] w fun e w' => e = .returned (.int .i64 (pos key.toList l 0)) ∧ Below w.heap.size w w' := by
    rcases h with rfl | ⟨b, off, rfl, h⟩
    · exact search_none c ao cap w
    · exact search_some l key c b off cap hl w h hc
  have HS := Lib.hid hs
  clear hs h hc
  go_enter Try.func28, Try.ntmps28
  go_wp2_with fail
  refine HS.out.mono ?_
  rintro e w1 ⟨rfl, hb⟩
  go_wp2_with fail
  go_ret
  exact ⟨rfl, hb⟩
/-- The sum of the weights. -/
def wsum : List Sl → Int
  | [] => 0
  | x :: l => x.2 + wsum l
theorem wsum_append (l k : List Sl) : wsum (l ++ k) = wsum l + wsum k := by
  induction l with
  | nil => simp [wsum]
  | cons x l ih => simp only [List.cons_append, wsum, ih]; omega
theorem wsum_nonneg (l : List Sl) (h : ∀ x, x ∈ l → 0 ≤ x.2) : 0 ≤ wsum l := by
  induction l with
  | nil => simp [wsum]
  | cons x l ih =>
    have := h x (by simp)
    have := ih (fun y hy => h y (by simp [hy]))
    simp only [wsum]; omega
theorem wsum_take (l : List Sl) (i : Nat) (x : Sl) (hx : l[i]? = some x) : wsum (l.take (i + 1)) = wsum (l.take i) + x.2 := by
  rw [List.take_add_one, hx, wsum_append]; simp [wsum]
theorem wsum_part (l : List Sl) (h : ∀ x, x ∈ l → 0 ≤ x.2) (i : Nat) : 0 ≤ wsum (l.take i) ∧ wsum (l.take i) ≤ wsum l := by
  refine ⟨wsum_nonneg _ (fun x hx => h x (List.mem_of_mem_take hx)), ?_⟩
  have e := wsum_append (l.take i) (l.drop i)
  rw [List.take_append_drop] at e
  have := wsum_nonneg (l.drop i) (fun x hx => h x (List.mem_of_mem_drop hx))
  omega
end Go.Proofs.Ytdbfioafcpjkpaa
