/-
  Use, as the specification has it.
-/
import Derived.Test.YtdbfioafcpjkpaaP
import Derived.Deep.RegionLaw
namespace Go.Proofs.Ytdbfioafcpjkpaa
open Go.ChangeShapes Go.WideShapes Go.ChangeAt Go.RowKit

set_option maxHeartbeats 1000000 in
set_option maxRecDepth 100000 in
theorem refUse_neg (L n : Int) (hn : n < 0) (key : ByteArray) (v : Value) (w : World) :
    Calls Try.prog 20 #[.agg #[.int .i64 L, v], .string key, .int .i64 n] w (UseIs w 0 [] [] 1) := by
  go_enter Try.func20, Try.ntmps20
  go_wp2_with fail
  refine bodyPost_ret (v := .tuple #[.agg #[.int .i64 0, .slice none 0 0], .slice none 0 0, .int .i64 1]) (by simp [results, Try.results20, go_sem]) rfl ?_
  exact ⟨none, 0, none, 0, rfl, Nat.le_refl _, Nat.le_refl _, Or.inl rfl, Or.inl rfl, (below_here _).alloc (by simp) _⟩
set_option maxHeartbeats 1000000 in
set_option maxRecDepth 100000 in
theorem refUse_big (L n : Int) (hn : 0 ≤ n) (hL : L < n) (key : ByteArray) (v : Value) (w : World) :
    Calls Try.prog 20 #[.agg #[.int .i64 L, v], .string key, .int .i64 n] w (UseIs w 0 [] [] 340) := by
  go_enter Try.func20, Try.ntmps20
  go_wp2_with fail
  refine bodyPost_ret (v := .tuple #[.agg #[.int .i64 0, .slice none 0 0], .slice none 0 0, .int .i64 340]) (by simp [results, Try.results20, go_sem]) rfl ?_
  exact ⟨none, 0, none, 0, rfl, Nat.le_refl _, Nat.le_refl _, Or.inl rfl, Or.inl rfl, (below_here _).alloc (by simp) _⟩
end Go.Proofs.Ytdbfioafcpjkpaa
