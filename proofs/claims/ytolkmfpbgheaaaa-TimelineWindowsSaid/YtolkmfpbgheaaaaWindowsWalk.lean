/-
  asoflaw06.TimelineWindows returns true.
-/
import Derived.Test.YtolkmfpbgheaaaaX
namespace Go.Proofs.Ytolkmfpbgheaaaa
open Go.ChangeShapes Go.WideShapes Go.ChangeAt Go.RowKit
set_option linter.unusedVariables false
set_option linter.unusedSimpArgs false

/-- A block of the call's own that holds a window. -/
def Two' (w : World) (g : Nat) (x y : Value) : Prop := w.heap[g]? = some (.cells #[x, y] 35 (0, 0))
theorem Two'.all {w : World} {g : Nat} {x y : Value} (h : Two' w g x y) : w.cell? ⟨g, 0, none⟩ = some x ∧ w.cell? ⟨g, 1, none⟩ = some y := by
  unfold Two' at h
  refine ⟨?_, ?_⟩ <;> simp [World.cell?, h]
theorem Two'.new (w : World) (x y : Value) : Two' (w.alloc (.cells #[x, y] 35)) w.heap.size x y := heap_alloc_new w _
theorem Two'.kept {w w' : World} {g : Nat} {x y : Value} (h : Two' w g x y) (hb : Below w.heap.size w w') : Two' w' g x y := (hb.block g (Array.getElem?_eq_some_iff.1 h).1).trans h

set_option maxHeartbeats 2000000 in
set_option maxRecDepth 100000 in
theorem windows_any (k s t : Int) (w : World) : Calls Try.prog 4 #[iv k s, .int .i64 t] w fun e w' => e = .returned (.bool true) ∧ Below w.heap.size w w' := by
  obtain ⟨⟨⟨a, b⟩, c⟩, hr⟩ : ∃ r, boundsF k s t = r := ⟨_, rfl⟩
  have B1 := fun w => bounds_any k s t w
  have B2 := fun w => rbounds_any k s t w
  rw [hr] at B1 B2
  have H1 := Lib.hid B1
  have H2 := Lib.hid B2
  clear B1 B2 hr
  go_enter Try.func4, Try.ntmps4
  go_wp2_with fail
  refine (H1.out _).mono ?_
  rintro e w1 ⟨rfl, hb⟩
  have BB : Hid (Below w.heap.size w w1) := (below_here _).trans (hb.mono (by simp))
  have HT : Hid (Two' w1 w.heap.size (.int .i64 k) (.int .i64 s)) := (Two'.new _ _ _).kept hb
  obtain ⟨k0, k1⟩ := HT.out.all
  have L0 : w.heap.size < w1.heap.size := cells_lt k0
  clear hb
  unfold ivbV
  go_wp2_with fail
  refine (H2.out _).mono ?_
  rintro e w2 ⟨rfl, hb⟩
  have B2 : Hid (Below w.heap.size w w2) := (BB.out.alloc BB.out.size _).trans (hb.mono (by have := BB.out.size; simp; omega))
  have HI : Hid (Two w2 w1.heap.size (.int .i64 a) (.int .i64 b)) := (Two.new _ _ _).kept hb
  obtain ⟨i0, i1, -, -⟩ := HI.out.all
  have L1 : w1.heap.size < w2.heap.size := HI.out.lt
  clear hb BB k0 k1 HT
  unfold ivbV
  go_wp2_with fail
  refine (example_any _).mono ?_
  rintro e w3 ⟨rfl, hb⟩
  have B3 : Hid (Below w.heap.size w w3) := (B2.out.alloc B2.out.size _).trans (hb.mono (by have := B2.out.size; simp; omega))
  have HJ : Hid (Two w3 w2.heap.size (.int .i64 a) (.int .i64 b)) := (Two.new _ _ _).kept hb
  have HI3 := Lib.hid ((HI.out.kept (below_here (.cells #[.int .i64 a, .int .i64 b] 23))).kept hb)
  obtain ⟨j0, j1, -, -⟩ := HJ.out.all
  obtain ⟨m0, m1, -, -⟩ := HI3.out.all
  clear hb B2 i0 i1 HI
  go_wp2_with fail
  all_goals
    go_ret
    exact ⟨rfl, B3.out⟩
end Go.Proofs.Ytolkmfpbgheaaaa
