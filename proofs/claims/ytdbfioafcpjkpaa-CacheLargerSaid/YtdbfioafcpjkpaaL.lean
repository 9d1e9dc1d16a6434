/-
  The specification's Used and Drop; New, of the cache and of the specification.
-/
import Derived.Test.YtdbfioafcpjkpaaK
namespace Go.Proofs.Ytdbfioafcpjkpaa
open Go.ChangeShapes Go.WideShapes Go.ChangeAt Go.RowKit

/-- Both New hand this back. -/
def NewIs (w : World) (L r : Int) (e : Ending) (w' : World) : Prop := e = .returned (.tuple #[.agg #[.int .i64 L, .slice none 0 0], .int .i64 r]) ∧ Below w.heap.size w w'
set_option maxRecDepth 100000 in
theorem new_bad (L : Int) (h : L < 0 ∨ 1152921504606846976 < L) (w : World) : Calls Try.prog 16 #[.int .i64 L] w (NewIs w 0 1) := by
  rcases h with h | h
  · go_enter Try.func16, Try.ntmps16
    go_wp2_with fail
    exact bodyPost_ret (v := .tuple #[.agg #[.int .i64 0, .slice none 0 0], .int .i64 1]) (by simp [results, Try.results16, go_sem]) rfl ⟨rfl, below_here _⟩
  · have h' : ¬ L < 0 := by omega
    go_enter Try.func16, Try.ntmps16
    go_wp2_with fail
    exact bodyPost_ret (v := .tuple #[.agg #[.int .i64 0, .slice none 0 0], .int .i64 1]) (by simp [results, Try.results16, go_sem]) rfl ⟨rfl, below_here _⟩
set_option maxRecDepth 100000 in
theorem new_good (L : Int) (h0 : 0 ≤ L) (h1 : L ≤ 1152921504606846976) (w : World) : Calls Try.prog 16 #[.int .i64 L] w (NewIs w L 0) := by
  go_enter Try.func16, Try.ntmps16
  go_wp2_with fail
  exact bodyPost_ret (v := .tuple #[.agg #[.int .i64 L, .slice none 0 0], .int .i64 0]) (by simp [results, Try.results16, go_sem]) rfl ⟨rfl, below_here _⟩
set_option maxRecDepth 100000 in
theorem refNew_bad (L : Int) (h : L < 0 ∨ 1152921504606846976 < L) (w : World) : Calls Try.prog 17 #[.int .i64 L] w (NewIs w 0 1) := by
  rcases h with h | h
  · go_enter Try.func17, Try.ntmps17
    go_wp2_with fail
    exact bodyPost_ret (v := .tuple #[.agg #[.int .i64 0, .slice none 0 0], .int .i64 1]) (by simp [results, Try.results17, go_sem]) rfl ⟨rfl, below_here _⟩
  · have h' : ¬ L < 0 := by omega
    go_enter Try.func17, Try.ntmps17
    go_wp2_with fail
    exact bodyPost_ret (v := .tuple #[.agg #[.int .i64 0, .slice none 0 0], .int .i64 1]) (by simp [results, Try.results17, go_sem]) rfl ⟨rfl, below_here _⟩
set_option maxRecDepth 100000 in
theorem refNew_good (L : Int) (h0 : 0 ≤ L) (h1 : L ≤ 1152921504606846976) (w : World) : Calls Try.prog 17 #[.int .i64 L] w (NewIs w L 0) := by
  go_enter Try.func17, Try.ntmps17
  go_wp2_with fail
  exact bodyPost_ret (v := .tuple #[.agg #[.int .i64 L, .slice none 0 0], .int .i64 0]) (by simp [results, Try.results17, go_sem]) rfl ⟨rfl, below_here _⟩

set_option maxHeartbeats 1000000 in
set_option maxRecDepth 100000 in
theorem refUsed_any (l : List Sl) (lim : Int) (ao : Option Addr) (cap : Nat) (hl : l.length ≤ 4611686018427387904) (hw : ∀ x, x ∈ l → 0 ≤ x.2) (hs : wsum l ≤ 4611686018427387904) (w : World) (h : SlotsAt w ao l) :
    Calls Try.prog 23 #[.agg #[.int .i64 lim, .slice ao l.length cap]] w fun e w' => e = .returned (.int .i64 (wsum l)) ∧ Below w.heap.size w w' := by
  have H := Lib.hid h
  have hpart := Lib.hid (wsum_part l hw)
  clear h
  go_enter Try.func23, Try.ntmps23
  go_wp2_with fail
  refine wp_gen (fun W hW => ?_)
  have HW : Below w.heap.size w W := by rw [hW]; exact below_here _
  have HT : Hid (Two W w.heap.size (.int .i64 lim) (.slice ao l.length cap)) := by rw [hW]; exact Two.new w _ _
  clear hW
  go_loop [3, 4] (fun n v => ∃ i : Nat, i ≤ l.length ∧ v = .int .i64 i ∧ n = .int .i64 (wsum (l.take i))) (fun _ v => l.length - (intOf v).toNat)
  case atStart => exact ⟨0, by omega, rfl, by simp [wsum]⟩
  case round =>
    obtain ⟨i, hi, rfl, rfl⟩ := hrel
    obtain ⟨t0, t1, -, -⟩ := HT.out.all
    by_cases hlt : i < l.length
    · obtain ⟨x, hx⟩ : ∃ x, l[i]? = some x := ⟨l[i], List.getElem?_eq_getElem hlt⟩
      obtain ⟨b, off, rfl, hrow⟩ := (H.out.kept HW).some (by omega)
      obtain ⟨s, -, hc, hc2⟩ := hrow i x hx
      have hp1 := hpart.out i
      have hp2 := hpart.out (i + 1)
      rw [wsum_take l i x hx] at hp2
      have hx0 := hw x (List.mem_of_getElem? hx)
      have hnext := Lib.hid (wsum_take l i x hx)
      clear hrow
      generalize wsum (l.take i) = n at *
      go_wp2_with fail
      go_round
      case rel => exact ⟨i + 1, by omega, by go_num, by rw [hnext.out]⟩
      case measure => simp [intOf]; omega
    · have hi2 : i = l.length := by omega
      subst hi2
      rw [List.take_length]
      go_wp2_with fail
      go_ret
      exact ⟨rfl, HW⟩
end Go.Proofs.Ytdbfioafcpjkpaa
