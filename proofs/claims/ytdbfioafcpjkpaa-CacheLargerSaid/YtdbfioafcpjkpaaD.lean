/-
  The sum of the weights, as the cache and as the specification take it.
-/
import Derived.Test.YtdbfioafcpjkpaaC
namespace Go.Proofs.Ytdbfioafcpjkpaa
open Go.ChangeShapes Go.WideShapes Go.ChangeAt Go.RowKit

set_option maxHeartbeats 1000000 in
set_option maxRecDepth 100000 in
theorem used_some (l : List Sl) (lim : Int) (b off cap : Nat) (hl : l.length ≤ 4611686018427387904) (hw : ∀ x, x ∈ l → 0 ≤ x.2) (hs : wsum l ≤ 4611686018427387904) (w : World) (h : RowAt w b off l) :
    Calls Try.prog 12 #[.agg #[.int .i64 lim, .slice (some ⟨b, off, none⟩) l.length cap]] w fun e w' => e = .returned (.int .i64 (wsum l)) ∧ Below w.heap.size w w' := by
  have H := Lib.hid h
  have hpart := Lib.hid (wsum_part l hw)
  clear h
  go_enter Try.func12, Try.ntmps12
  go_wp2_with fail
  go_loopw [2, 8] (fun n v wr => ∃ i : Nat, i ≤ l.length ∧ v = .int .i64 i ∧ n = .int .i64 (wsum (l.take i)) ∧ Below w.heap.size w wr) (fun _ v _ => l.length - (intOf v).toNat)
  case atStart => exact ⟨0, by omega, rfl, by simp [wsum], (Below.refl _ _).alloc (Nat.le_refl _) _⟩
  case round =>
    obtain ⟨i, hi, rfl, rfl, hB⟩ := hrel
    by_cases hlt : i < l.length
    · obtain ⟨x, hx⟩ : ∃ x, l[i]? = some x := ⟨l[i], List.getElem?_eq_getElem hlt⟩
      obtain ⟨s, -, hc, hc2⟩ := (H.out.kept hB) i x hx
      have hp1 := hpart.out i
      have hp2 := hpart.out (i + 1)
      rw [wsum_take l i x hx] at hp2
      have hx0 := hw x (List.mem_of_getElem? hx)
      have hnext := Lib.hid (wsum_take l i x hx)
      generalize wsum (l.take i) = n at *
      go_wp2_with fail
      go_roundw
      case rel => exact ⟨i + 1, by omega, by go_num, by rw [hnext.out], hB.alloc hB.size _⟩
      case measure => simp [intOf]; omega
    · have hi2 : i = l.length := by omega
      subst hi2
      rw [List.take_length]
      go_wp2_with fail
      go_ret
      exact ⟨rfl, hB⟩
theorem used_none (lim : Int) (ao : Option Addr) (cap : Nat) (w : World) :
    Calls Try.prog 12 #[.agg #[.int .i64 lim, .slice ao 0 cap]] w fun e w' => e = .returned (.int .i64 0) ∧ Below w.heap.size w w' := by
  go_enter Try.func12, Try.ntmps12
  go_wp2_with fail
  go_loopw [2, 8] (fun n v wr => v = .int .i64 0 ∧ n = .int .i64 0 ∧ Below w.heap.size w wr) (fun _ _ _ => 0)
  case atStart => exact ⟨rfl, rfl, (Below.refl _ _).alloc (Nat.le_refl _) _⟩
  case round =>
    obtain ⟨rfl, rfl, hB⟩ := hrel
    go_wp2_with fail
    go_ret
    exact ⟨rfl, hB⟩
theorem used_any (l : List Sl) (lim : Int) (ao : Option Addr) (cap : Nat) (hl : l.length ≤ 4611686018427387904) (hw : ∀ x, x ∈ l → 0 ≤ x.2) (hs : wsum l ≤ 4611686018427387904) (w : World) (h : SlotsAt w ao l) :
    Calls Try.prog 12 #[.agg #[.int .i64 lim, .slice ao l.length cap]] w fun e w' => e = .returned (.int .i64 (wsum l)) ∧ Below w.heap.size w w' := by
  rcases h with rfl | ⟨b, off, rfl, h⟩
  · exact used_none lim ao cap w
  · exact used_some l lim b off cap hl hw hs w h
end Go.Proofs.Ytdbfioafcpjkpaa
