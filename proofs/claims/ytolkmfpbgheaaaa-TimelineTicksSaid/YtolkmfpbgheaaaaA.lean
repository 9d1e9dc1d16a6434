import Derived.Test.YtolkmfpbgheaaaaRows
import Derived.WalkKit
import Derived.ProofKit
import Derived.OpenShut
import Derived.Lib.Hide
namespace Go.Proofs.Ytolkmfpbgheaaaa
open Go.ChangeShapes Go.WideShapes Go.ChangeAt Go.RowKit
set_option linter.unusedVariables false

/-- An interval as a value. -/
abbrev iv (f t : Int) : Value := .agg #[.int .i64 f, .int .i64 t]
/-- Is an interval valid? -/
def okI (f t : Int) : Bool := decide (0 ≤ f ∧ f ≤ t ∧ t ≤ 1099511627776)
theorem okI_yes {f t : Int} (h : okI f t = true) : 0 ≤ f ∧ f ≤ t ∧ t ≤ 1099511627776 := of_decide_eq_true h
theorem okI_no {f t : Int} (h : okI f t = false) : ¬ (0 ≤ f ∧ f ≤ t ∧ t ≤ 1099511627776) := of_decide_eq_false h
theorem okI_of {f t : Int} (h : 0 ≤ f ∧ f ≤ t ∧ t ≤ 1099511627776) : okI f t = true := decide_eq_true h
theorem okI_not {f t : Int} (h : ¬ (0 ≤ f ∧ f ≤ t ∧ t ≤ 1099511627776)) : okI f t = false := decide_eq_false h
/-- Is a number a tick? -/
def okT (t : Int) : Bool := decide (0 ≤ t ∧ t ≤ 1099511627776)
theorem bcell {W w1 : World} (hb : Below W.heap.size W w1) : (∀ b o, b < W.heap.size → w1.cell? ⟨b, o, none⟩ = W.cell? ⟨b, o, none⟩) ∧ (∀ b o, b < W.heap.size → w1.frozen? ⟨b, o, none⟩ = W.frozen? ⟨b, o, none⟩) :=
  ⟨fun b o h => hb.cell (p := ⟨b, o, none⟩) h, fun b o h => hb.frozen (p := ⟨b, o, none⟩) h⟩

theorem check_any (f t : Int) (w : World) : Calls Try.prog 14 #[iv f t] w fun e w' => e = .returned (if okI f t then .int .i64 0 else .int .i64 1) ∧ Below w.heap.size w w' := by
  by_cases h1 : f < 0
  · rw [okI_not (by omega)]
    go_enter Try.func14, Try.ntmps14
    go_wp2
    go_ret
    exact ⟨rfl, (Below.refl _ _).alloc (Nat.le_refl _) _⟩
  · by_cases h2 : t < f
    · rw [okI_not (by omega)]
      go_enter Try.func14, Try.ntmps14
      go_wp2
      go_ret
      exact ⟨rfl, (Below.refl _ _).alloc (Nat.le_refl _) _⟩
    · by_cases h3 : 1099511627776 < t
      · rw [okI_not (by omega)]
        go_enter Try.func14, Try.ntmps14
        go_wp2
        go_ret
        exact ⟨by first | rfl | (simp; omega), (Below.refl _ _).alloc (Nat.le_refl _) _⟩
      · rw [okI_of (by omega)]
        go_enter Try.func14, Try.ntmps14
        go_wp2
        go_ret
        exact ⟨rfl, (Below.refl _ _).alloc (Nat.le_refl _) _⟩

theorem rvalid_any (f t : Int) (w : World) : Calls Try.prog 27 #[iv f t] w fun e w' => e = .returned (if okI f t then .bool true else .bool false) ∧ Below w.heap.size w w' := by
  by_cases h1 : f < 0
  · rw [okI_not (by omega)]
    go_enter Try.func27, Try.ntmps27
    go_wp2
    go_ret
    exact ⟨rfl, (Below.refl _ _).alloc (Nat.le_refl _) _⟩
  · by_cases h2 : t < f
    · rw [okI_not (by omega)]
      go_enter Try.func27, Try.ntmps27
      go_wp2
      go_ret
      exact ⟨rfl, (Below.refl _ _).alloc (Nat.le_refl _) _⟩
    · by_cases h3 : 1099511627776 < t
      · rw [okI_not (by omega)]
        go_enter Try.func27, Try.ntmps27
        go_wp2
        go_ret
        exact ⟨by first | rfl | (simp; omega), (Below.refl _ _).alloc (Nat.le_refl _) _⟩
      · rw [okI_of (by omega)]
        go_enter Try.func27, Try.ntmps27
        go_wp2
        go_ret
        exact ⟨rfl, (Below.refl _ _).alloc (Nat.le_refl _) _⟩

theorem rcheck_any (f t : Int) (w : World) : Calls Try.prog 15 #[iv f t] w fun e w' => e = .returned (if okI f t then .int .i64 0 else .int .i64 1) ∧ Below w.heap.size w w' := by
  have V := fun w => rvalid_any f t w
  cases h : okI f t
  all_goals
    simp only [h, if_true, if_false, Bool.false_eq_true] at V
    have HV := Lib.hid V
    clear V
    go_enter Try.func15, Try.ntmps15
    go_wp2_with fail
    refine (HV.out _).mono ?_
    rintro e w1 ⟨rfl, hb⟩
    go_wp2_with fail
    go_ret
    exact ⟨rfl, ((Below.refl _ _).alloc (Nat.le_refl _) _).trans (hb.mono (by simp))⟩

theorem tick_any (t : Int) (w : World) : Calls Try.prog 34 #[.int .i64 t] w fun e w' => e = .returned (.bool (okT t)) ∧ w = w' := by
  by_cases h1 : 0 ≤ t
  · by_cases h2 : t ≤ 1099511627776
    · rw [show okT t = true from decide_eq_true ⟨h1, h2⟩]
      go_enter Try.func34, Try.ntmps34
      go_wp2
      go_ret
      exact ⟨rfl, rfl⟩
    · rw [show okT t = false from decide_eq_false (fun k => h2 k.2)]
      go_enter Try.func34, Try.ntmps34
      go_wp2
      go_ret
      exact ⟨rfl, rfl⟩
  · rw [show okT t = false from decide_eq_false (fun k => h1 k.1)]
    go_enter Try.func34, Try.ntmps34
    go_wp2
    go_ret
    exact ⟨rfl, rfl⟩

theorem rtick_any (t : Int) (w : World) : Calls Try.prog 36 #[.int .i64 t] w fun e w' => e = .returned (.bool (okT t)) ∧ w = w' := by
  by_cases h1 : 0 ≤ t
  · by_cases h2 : t ≤ 1099511627776
    · rw [show okT t = true from decide_eq_true ⟨h1, h2⟩]
      go_enter Try.func36, Try.ntmps36
      go_wp2
      go_ret
      exact ⟨rfl, rfl⟩
    · rw [show okT t = false from decide_eq_false (fun k => h2 k.2)]
      go_enter Try.func36, Try.ntmps36
      go_wp2
      go_ret
      exact ⟨rfl, rfl⟩
  · rw [show okT t = false from decide_eq_false (fun k => h1 k.1)]
    go_enter Try.func36, Try.ntmps36
    go_wp2
    go_ret
    exact ⟨rfl, rfl⟩

/-- Is a window valid? -/
def okW (k s : Int) : Bool := decide (k = 1 ∧ s = 0 ∨ 2 ≤ k ∧ k ≤ 4 ∧ 1 ≤ s ∧ s ≤ 1099511627776)

theorem wvalid_any (k s : Int) (w : World) : Calls Try.prog 33 #[iv k s] w fun e w' => e = .returned (.bool (okW k s)) ∧ Below w.heap.size w w' := by
  by_cases h1 : k = 1
  · subst h1
    by_cases h2 : s = 0
    · subst h2
      rw [show okW 1 0 = true from by decide]
      go_enter Try.func33, Try.ntmps33
      go_wp2
      go_ret
      exact ⟨rfl, (Below.refl _ _).alloc (Nat.le_refl _) _⟩
    · rw [show okW 1 s = false from decide_eq_false (by omega)]
      have e2 : (s == 0) = false := by simp; omega
      go_enter Try.func33, Try.ntmps33
      go_wp2
      go_ret
      exact ⟨rfl, (Below.refl _ _).alloc (Nat.le_refl _) _⟩
  · have e1 : (k == 1) = false := by simp; omega
    by_cases h2 : k = 2 ∨ k = 3 ∨ k = 4
    · rcases h2 with rfl | rfl | rfl
      all_goals
        by_cases h3 : 1 ≤ s
        · by_cases h4 : s ≤ 1099511627776
          · rw [show okW _ s = true from decide_eq_true (by omega)]
            go_enter Try.func33, Try.ntmps33
            go_wp2
            go_ret
            exact ⟨rfl, (Below.refl _ _).alloc (Nat.le_refl _) _⟩
          · rw [show okW _ s = false from decide_eq_false (by omega)]
            go_enter Try.func33, Try.ntmps33
            go_wp2
            go_ret
            exact ⟨rfl, (Below.refl _ _).alloc (Nat.le_refl _) _⟩
        · rw [show okW _ s = false from decide_eq_false (by omega)]
          go_enter Try.func33, Try.ntmps33
          go_wp2
          go_ret
          exact ⟨rfl, (Below.refl _ _).alloc (Nat.le_refl _) _⟩
    · have e2 : (k == 2) = false := by simp; omega
      have e3 : (k == 3) = false := by simp; omega
      have e4 : (k == 4) = false := by simp; omega
      rw [show okW k s = false from decide_eq_false (by omega)]
      by_cases h5 : k < 2
      · go_enter Try.func33, Try.ntmps33
        go_wp2
        go_ret
        exact ⟨rfl, (Below.refl _ _).alloc (Nat.le_refl _) _⟩
      · have h6 : 4 < k := by omega
        clear h2
        go_enter Try.func33, Try.ntmps33
        go_wp2
        go_ret
        exact ⟨rfl, (Below.refl _ _).alloc (Nat.le_refl _) _⟩

theorem rwindow_any (k s : Int) (w : World) : Calls Try.prog 35 #[iv k s] w fun e w' => e = .returned (.bool (okW k s)) ∧ Below w.heap.size w w' := by
  by_cases h1 : k = 1
  · subst h1
    by_cases h2 : s = 0
    · subst h2
      rw [show okW 1 0 = true from by decide]
      go_enter Try.func35, Try.ntmps35
      go_wp2
      go_ret
      exact ⟨rfl, (Below.refl _ _).alloc (Nat.le_refl _) _⟩
    · rw [show okW 1 s = false from decide_eq_false (by omega)]
      have e2 : (s == 0) = false := by simp; omega
      go_enter Try.func35, Try.ntmps35
      go_wp2
      go_ret
      exact ⟨rfl, (Below.refl _ _).alloc (Nat.le_refl _) _⟩
  · have e1 : (k == 1) = false := by simp; omega
    by_cases h2 : k = 2 ∨ k = 3 ∨ k = 4
    · rcases h2 with rfl | rfl | rfl
      all_goals
        by_cases h3 : 1 ≤ s
        · by_cases h4 : s ≤ 1099511627776
          · rw [show okW _ s = true from decide_eq_true (by omega)]
            go_enter Try.func35, Try.ntmps35
            go_wp2
            go_ret
            exact ⟨rfl, (Below.refl _ _).alloc (Nat.le_refl _) _⟩
          · rw [show okW _ s = false from decide_eq_false (by omega)]
            go_enter Try.func35, Try.ntmps35
            go_wp2
            go_ret
            exact ⟨rfl, (Below.refl _ _).alloc (Nat.le_refl _) _⟩
        · rw [show okW _ s = false from decide_eq_false (by omega)]
          go_enter Try.func35, Try.ntmps35
          go_wp2
          go_ret
          exact ⟨rfl, (Below.refl _ _).alloc (Nat.le_refl _) _⟩
    · have e2 : (k == 2) = false := by simp; omega
      have e3 : (k == 3) = false := by simp; omega
      have e4 : (k == 4) = false := by simp; omega
      rw [show okW k s = false from decide_eq_false (by omega)]
      by_cases h5 : k < 2
      · go_enter Try.func35, Try.ntmps35
        go_wp2
        go_ret
        exact ⟨rfl, (Below.refl _ _).alloc (Nat.le_refl _) _⟩
      · have h6 : 4 < k := by omega
        clear h2
        go_enter Try.func35, Try.ntmps35
        go_wp2
        go_ret
        exact ⟨rfl, (Below.refl _ _).alloc (Nat.le_refl _) _⟩

end Go.Proofs.Ytolkmfpbgheaaaa
