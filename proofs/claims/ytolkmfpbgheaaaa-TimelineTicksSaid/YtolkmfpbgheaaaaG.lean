/-
  The two functions that timeline.Union hands on, and slices.SortFunc on valid intervals.
-/
import Derived.Test.YtolkmfpbgheaaaaF
import Derived.Test.YtolkmfpbgheaaaaShelf2
import Derived.RegionTactic
namespace Go.Proofs.Ytolkmfpbgheaaaa
open Go.ChangeShapes Go.WideShapes Go.ChangeAt Go.RowKit Go.Shelf Go.Sort
set_option linter.unusedVariables false
set_option linter.unusedSimpArgs false

/-- A valid interval. -/
abbrev OkIv := { x : Iv // okI x.1 x.2 = true }
instance : Inhabited OkIv := ⟨⟨(0, 0), by decide⟩⟩
def encOk (x : OkIv) : List Value := [.int .i64 x.1.1, .int .i64 x.1.2]
def cmpOk (x y : OkIv) : Int := x.1.1 - y.1.1
theorem cmpOk_lt (x y : OkIv) : ltOf cmpOk x y = decide (x.1.1 < y.1.1) := by
  unfold ltOf cmpOk
  rw [Bool.eq_iff_iff]; simp; omega
theorem cmpOk_swo : SWO (ltOf cmpOk) where
  irrefl x := by rw [cmpOk_lt]; simp
  trans x y z h1 h2 := by rw [cmpOk_lt] at *; simp at *; omega
  ntrans x y z h1 h2 := by rw [cmpOk_lt] at *; simp at *; omega
theorem cmp_any (x y : OkIv) (W : World) : Calls Try.prog 29 #[.agg #[.int .i64 x.1.1, .int .i64 x.1.2], .agg #[.int .i64 y.1.1, .int .i64 y.1.2]] W fun e w' => e = .returned (.int .i64 (cmpOk x y)) ∧ ∃ q os', w' = grow (W.drewN q) os' := by
  obtain ⟨⟨a, b⟩, hx⟩ := x
  obtain ⟨⟨c, d⟩, hy⟩ := y
  obtain ⟨x1, x2, x3⟩ := okI_yes hx
  obtain ⟨y1, y2, y3⟩ := okI_yes hy
  simp only at x1 x2 x3 y1 y2 y3
  show Calls Try.prog 29 #[.agg #[.int .i64 a, .int .i64 b], .agg #[.int .i64 c, .int .i64 d]] W fun e w' => e = .returned (.int .i64 (a - c)) ∧ ∃ q os', w' = grow (W.drewN q) os'
  clear hx hy
  go_enter Try.func29, Try.ntmps29
  go_wp2_with fail
  go_ret
  exact ⟨rfl, 0, _, by rw [alloc_eq_grow, alloc_eq_grow, grow_grow]; rfl⟩
theorem cmp_lays (blk off size : Nat) (w : World) : Go.Proofs.CmpLays Try.prog 29 #[] encOk 2 cmpOk blk off size w :=
  fun _ _ _ _ x y => cmp_any x y _
theorem sort_any (blk off cap : Nat) (d : Array OkIv) (w : World) (hH : HoldsK encOk 2 w blk off d) (hblk : blk < w.heap.size) (hsz : d.size < 4611686018427387904) :
    Calls Try.prog 28 #[.slice (some ⟨blk, off, none⟩) d.size cap, .func (.func 29) #[] #[]] w fun e w' => e = .returned (.tuple #[]) ∧ ∃ d' n os, PermIn 0 d.size d d' ∧ SortedIn (ltOf cmpOk) 0 d.size d' ∧ w' = Go.Proofs.sortWorldK encOk 2 w blk off n d' os := by
  have eg : ∀ args w, (callFunc 29 args).run Try.prog w = .ok (.enter 29 args) w := Go.Proofs.enters_of Try.func29 (by kernel_rfl) rfl
  exact Go.Proofs.AnyQ.slices_SortFunc Try.sortIv 2 Try.isAgg23 Try.sizeOf23 encOk (fun _ => rfl) (fun x v hv => by simp [encOk] at hv; rcases hv with rfl | rfl <;> rfl) cmpOk cmpOk_swo 29 #[] blk off cap d w eg (cmp_lays blk off d.size w) hH hblk hsz

set_option maxHeartbeats 1000000 in
theorem join_any (a b c d : Int) (h1 : okI a b = true) (h2 : okI c d = true) (w : World) : Calls Try.prog 31 #[iv a b, iv c d] w fun e w' => e = .returned (.tuple #[iv a (max b d), .bool (decide (c ≤ b + 1))]) ∧ Below w.heap.size w w' := by
  obtain ⟨x1, x2, x3⟩ := okI_yes h1
  obtain ⟨y1, y2, y3⟩ := okI_yes h2
  clear h1 h2
  by_cases h : b < d
  · rw [show max b d = d by omega]
    go_enter Try.func31, Try.ntmps31
    go_wp2_with fail
    go_region
    go_wp2_with fail
    all_goals
      refine bodyPost_ret (v := .tuple #[iv a d, .bool (decide (c ≤ b + 1))]) (by simp [results, Try.results31, go_sem]; try omega) rfl ⟨rfl, ?_⟩
      exact (((((Below.refl _ _).alloc (Nat.le_refl _) _).alloc (by simp) _).alloc (by simp; omega) _)).drew
  · rw [show max b d = b by omega]
    go_enter Try.func31, Try.ntmps31
    go_wp2_with fail
    go_region
    go_wp2_with fail
    all_goals
      refine bodyPost_ret (v := .tuple #[iv a b, .bool (decide (c ≤ b + 1))]) (by simp [results, Try.results31, go_sem]; try omega) rfl ⟨rfl, ?_⟩
      exact (((((Below.refl _ _).alloc (Nat.le_refl _) _).alloc (by simp) _).alloc (by simp; omega) _)).drew
end Go.Proofs.Ytolkmfpbgheaaaa
