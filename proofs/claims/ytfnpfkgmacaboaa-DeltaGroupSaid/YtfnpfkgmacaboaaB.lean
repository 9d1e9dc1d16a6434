/-
  The comparisons of ints, of the program and of the specification.
-/
import Derived.Test.YtfnpfkgmacaboaaRows
import Derived.Test.YtfnpfkgmacaboaaA
import Derived.ProofKit
import Derived.OpenShut
import Derived.Lib.Hide
import Derived.Laws.Cover1
namespace Go.Proofs.Ytfnpfkgmacaboaa
open Go.ChangeShapes Go.WideShapes Go.ChangeAt Go.RowKit
set_option linter.unusedVariables false
set_option linter.unusedSimpArgs false

theorem cmpI_lt {a b : Int} (h : a < b) : cmpI a b = -1 := by unfold cmpI; rw [if_pos h]
theorem cmpI_gt {a b : Int} (h : b < a) : cmpI a b = 1 := by unfold cmpI; rw [if_neg (by omega), if_pos h]
theorem cmpI_eq (a : Int) : cmpI a a = 0 := cmpI_cmp.refl a
theorem order_any (a b : Int) (w : World) : Calls Try.prog 42 #[.int .i64 a, .int .i64 b] w fun e w' => e = .returned (.int .i64 (cmpI a b)) ∧ w = w' := by
  rcases Int.lt_trichotomy a b with h | h | h
  · rw [cmpI_lt h]
    go_enter Try.func42, Try.ntmps42
    go_wp2_with fail
    go_ret
    exact ⟨rfl, rfl⟩
  · subst h
    rw [cmpI_eq]
    have h1 : ¬ a < a := Int.lt_irrefl a
    go_enter Try.func42, Try.ntmps42
    go_wp2_with fail
    go_ret
    exact ⟨rfl, rfl⟩
  · rw [cmpI_gt h]
    have h1 : ¬ a < b := by omega
    go_enter Try.func42, Try.ntmps42
    go_wp2_with fail
    go_ret
    exact ⟨rfl, rfl⟩
theorem rcompare_any (a b : Int) (w : World) : Calls Try.prog 58 #[.int .i64 a, .int .i64 b] w fun e w' => e = .returned (.int .i64 (cmpI a b)) ∧ w = w' := by
  rcases Int.lt_trichotomy a b with h | h | h
  · rw [cmpI_lt h]
    go_enter Try.func58, Try.ntmps58
    go_wp2_with fail
    go_ret
    exact ⟨rfl, rfl⟩
  · subst h
    rw [cmpI_eq]
    have h1 : ¬ a < a := Int.lt_irrefl a
    go_enter Try.func58, Try.ntmps58
    go_wp2_with fail
    go_ret
    exact ⟨rfl, rfl⟩
  · rw [cmpI_gt h]
    have h1 : ¬ a < b := by omega
    go_enter Try.func58, Try.ntmps58
    go_wp2_with fail
    go_ret
    exact ⟨rfl, rfl⟩
theorem isNaN_any (a : Int) (w : World) : Calls Try.prog 48 #[.int .i64 a] w fun e w' => e = .returned (.bool false) ∧ w = w' := by
  go_enter Try.func48, Try.ntmps48
  go_wp2_with fail
  go_ret
  exact ⟨rfl, rfl⟩
theorem compare_any (a b : Int) (w : World) : Calls Try.prog 31 #[.int .i64 a, .int .i64 b] w fun e w' => e = .returned (.int .i64 (cmpI a b)) ∧ w = w' := by
  have HA := Lib.hid (fun w => isNaN_any a w)
  have HB := Lib.hid (fun w => isNaN_any b w)
  rcases Int.lt_trichotomy a b with h | h | h
  · rw [cmpI_lt h]
    go_enter Try.func31, Try.ntmps31
    go_wp2_with (first | (go_at_call 48; (with_reducible refine (HA.out _).mono ?_); rintro e w1 ⟨rfl, rfl⟩) | (go_at_call 48; (with_reducible refine (HB.out _).mono ?_); rintro e w1 ⟨rfl, rfl⟩))
    go_ret
    exact ⟨rfl, rfl⟩
  · subst h
    rw [cmpI_eq]
    have h1 : ¬ a < a := Int.lt_irrefl a
    go_enter Try.func31, Try.ntmps31
    go_wp2_with (go_at_call 48; (with_reducible refine (HA.out _).mono ?_); rintro e w1 ⟨rfl, rfl⟩)
    go_ret
    exact ⟨rfl, rfl⟩
  · rw [cmpI_gt h]
    have h1 : ¬ a < b := by omega
    go_enter Try.func31, Try.ntmps31
    go_wp2_with (first | (go_at_call 48; (with_reducible refine (HA.out _).mono ?_); rintro e w1 ⟨rfl, rfl⟩) | (go_at_call 48; (with_reducible refine (HB.out _).mono ?_); rintro e w1 ⟨rfl, rfl⟩))
    go_ret
    exact ⟨rfl, rfl⟩
end Go.Proofs.Ytfnpfkgmacaboaa

/-
  The comparisons of strings.
-/
namespace Go.Proofs.Ytfnpfkgmacaboaa
open Go.ChangeShapes Go.WideShapes Go.ChangeAt Go.RowKit
set_option linter.unusedVariables false
set_option linter.unusedSimpArgs false

/-- The order of bytes, and of strings. -/
def cmpB (a b : UInt8) : Int := cmpI a.toNat b.toNat
theorem cmpB_cmp : Cmp cmpB := cmpI_cmp.on (fun a : UInt8 => (a.toNat : Int)) (fun a b h => UInt8.toNat_inj.1 (by exact_mod_cast h))
theorem bytesLess_cmp : ∀ (x y : List UInt8), Op.bytesLess x y = decide (cmpL cmpB x y < 0)
  | [], [] => by simp [Op.bytesLess, cmpL]
  | [], _ :: _ => by simp [Op.bytesLess, cmpL]
  | _ :: _, [] => by simp [Op.bytesLess, cmpL]
  | a :: x, b :: y => by
    have e : cmpL cmpB (a :: x) (b :: y) = orI (cmpB a b) (cmpL cmpB x y) := rfl
    unfold Op.bytesLess
    rw [bytesLess_cmp x y, Bool.eq_iff_iff, decide_eq_true_iff, e, orI_neg, cmpB_cmp.zero]
    simp only [Bool.or_eq_true, Bool.and_eq_true, decide_eq_true_eq, beq_iff_eq]
    have : a < b ↔ cmpB a b < 0 := by
      unfold cmpB cmpI
      rw [UInt8.lt_iff_toNat_lt]
      split <;> (try split) <;> omega
    rw [this]
def cmpS (a b : ByteArray) : Int := cmpL cmpB a.toList b.toList
theorem less_yes {a b : ByteArray} (h : cmpS a b < 0) : Op.bytesLess a.toList b.toList = true := by rw [bytesLess_cmp]; exact decide_eq_true h
theorem less_no {a b : ByteArray} (h : ¬ cmpS a b < 0) : Op.bytesLess a.toList b.toList = false := by rw [bytesLess_cmp]; exact decide_eq_false h
theorem cmpL_ends : ∀ (x y : List UInt8), cmpL cmpB x y = -1 ∨ cmpL cmpB x y = 0 ∨ cmpL cmpB x y = 1
  | [], [] => by simp [cmpL]
  | [], _ :: _ => by simp [cmpL]
  | _ :: _, [] => by simp [cmpL]
  | a :: x, b :: y => by
    simp only [cmpL]
    unfold orI
    split
    · exact cmpL_ends x y
    · unfold cmpB cmpI; split <;> (try split) <;> simp
theorem cmpS_ends (a b : ByteArray) : cmpS a b = -1 ∨ cmpS a b = 0 ∨ cmpS a b = 1 := cmpL_ends _ _
theorem same_no {a b : ByteArray} (h : cmpS a b = 1) : (a.toList == b.toList) = false := by
  rw [beq_eq_false_iff_ne]
  intro e
  unfold cmpS at h
  rw [((cmpL_cmp cmpB_cmp).zero _ _).2 e] at h
  omega
theorem same_yes {a b : ByteArray} (h : cmpS a b = 0) : (a.toList == b.toList) = true := by
  rw [beq_iff_eq]
  exact ((cmpL_cmp cmpB_cmp).zero _ _).1 h
theorem words_any (a b : ByteArray) (w : World) : Calls Try.prog 43 #[.string a, .string b] w fun e w' => e = .returned (.int .i64 (cmpS a b)) ∧ w = w' := by
  rcases cmpS_ends a b with h | h | h
  · have h1 := less_yes (show cmpS a b < 0 by omega)
    rw [h]
    go_enter Try.func43, Try.ntmps43
    go_wp2_with fail
    go_ret
    exact ⟨rfl, rfl⟩
  · have h1 := less_no (show ¬ cmpS a b < 0 by omega)
    have h2 := same_yes h
    rw [h]
    go_enter Try.func43, Try.ntmps43
    go_wp2_with fail
    go_ret
    exact ⟨rfl, rfl⟩
  · have h1 := less_no (show ¬ cmpS a b < 0 by omega)
    have h2 := same_no h
    rw [h]
    go_enter Try.func43, Try.ntmps43
    go_wp2_with fail
    go_ret
    exact ⟨rfl, rfl⟩
end Go.Proofs.Ytfnpfkgmacaboaa

/-
  cmp.Compare at strings.
-/
namespace Go.Proofs.Ytfnpfkgmacaboaa
open Go.ChangeShapes Go.WideShapes Go.ChangeAt Go.RowKit
set_option linter.unusedVariables false
set_option linter.unusedSimpArgs false

theorem isNaNS_any (a : ByteArray) (w : World) : Calls Try.prog 94 #[.string a] w fun e w' => e = .returned (.bool false) ∧ w = w' := by
  go_enter Try.func94, Try.ntmps94
  go_wp2_with fail
  go_ret
  exact ⟨rfl, rfl⟩
theorem compareS_any (a b : ByteArray) (w : World) : Calls Try.prog 82 #[.string a, .string b] w fun e w' => e = .returned (.int .i64 (cmpS a b)) ∧ w = w' := by
  have HA := Lib.hid (fun w => isNaNS_any a w)
  have HB := Lib.hid (fun w => isNaNS_any b w)
  rcases cmpS_ends a b with h | h | h
  · have h1 := less_yes (show cmpS a b < 0 by omega)
    rw [h]
    go_enter Try.func82, Try.ntmps82
    go_wp2_with (first | (go_at_call 94; (with_reducible refine (HA.out _).mono ?_); rintro e w1 ⟨rfl, rfl⟩) | (go_at_call 94; (with_reducible refine (HB.out _).mono ?_); rintro e w1 ⟨rfl, rfl⟩))
    go_ret
    exact ⟨rfl, rfl⟩
  · have h1 := less_no (show ¬ cmpS a b < 0 by omega)
    have h2 := same_yes h
    rw [h]
    go_enter Try.func82, Try.ntmps82
    go_wp2_with (first | (go_at_call 94; (with_reducible refine (HA.out _).mono ?_); rintro e w1 ⟨rfl, rfl⟩) | (go_at_call 94; (with_reducible refine (HB.out _).mono ?_); rintro e w1 ⟨rfl, rfl⟩))
    go_ret
    exact ⟨rfl, rfl⟩
  · have h1 := less_no (show ¬ cmpS a b < 0 by omega)
    have h2 := same_no h
    rw [h]
    go_enter Try.func82, Try.ntmps82
    go_wp2_with (first | (go_at_call 94; (with_reducible refine (HA.out _).mono ?_); rintro e w1 ⟨rfl, rfl⟩) | (go_at_call 94; (with_reducible refine (HB.out _).mono ?_); rintro e w1 ⟨rfl, rfl⟩))
    go_ret
    exact ⟨rfl, rfl⟩
end Go.Proofs.Ytfnpfkgmacaboaa

/-
  The specification's comparisons of identifiers and values.
-/
namespace Go.Proofs.Ytfnpfkgmacaboaa
open Go.ChangeShapes Go.WideShapes Go.ChangeAt Go.RowKit
set_option linter.unusedVariables false
set_option linter.unusedSimpArgs false

theorem below_two {w : World} (o1 o2 : Obj) : Below w.heap.size w ((w.alloc o1).alloc o2) := ((Below.refl _ _).alloc (Nat.le_refl _) _).alloc (by simp) _
theorem order5_any (a b : Int) (w : World) : Calls Try.prog 76 #[.int .i64 a, .int .i64 b] w fun e w' => e = .returned (.int .i64 (cmpI a b)) ∧ w = w' := by
  rcases Int.lt_trichotomy a b with h | h | h
  · rw [cmpI_lt h]
    go_enter Try.func76, Try.ntmps76
    go_wp2_with fail
    go_ret
    exact ⟨rfl, rfl⟩
  · subst h
    rw [cmpI_eq]
    have h1 : ¬ a < a := Int.lt_irrefl a
    go_enter Try.func76, Try.ntmps76
    go_wp2_with fail
    go_ret
    exact ⟨rfl, rfl⟩
  · rw [cmpI_gt h]
    have h1 : ¬ a < b := by omega
    go_enter Try.func76, Try.ntmps76
    go_wp2_with fail
    go_ret
    exact ⟨rfl, rfl⟩
theorem orI_of {x y : Int} (h : x ≠ 0) : orI x y = x := by unfold orI; rw [if_neg h]
theorem orI_then (y : Int) : orI 0 y = y := rfl
theorem rid_any (s t : ByteArray) (m n : Int) (w : World) : Calls Try.prog 59 #[.agg #[.string s, .int .i64 m], .agg #[.string t, .int .i64 n]] w fun e w' => e = .returned (.int .i64 (orI (cmpS s t) (cmpI m n))) ∧ Below w.heap.size w w' := by
  have HC := Lib.hid (fun w => rcompare_any m n w)
  rcases cmpS_ends s t with h | h | h
  · have h1 := less_yes (show cmpS s t < 0 by omega)
    rw [h, orI_of (by decide)]
    go_enter Try.func59, Try.ntmps59
    go_wp2_with fail
    go_ret
    exact ⟨rfl, below_two _ _⟩
  · have h1 := less_no (show ¬ cmpS s t < 0 by omega)
    have h2 := same_yes h
    rw [h, orI_then]
    generalize cmpI m n = r at *
    go_enter Try.func59, Try.ntmps59
    go_wp2_with (go_at_call 58; (with_reducible refine (HC.out _).mono ?_); rintro e w1 ⟨rfl, rfl⟩)
    go_ret
    exact ⟨rfl, below_two _ _⟩
  · have h1 := less_no (show ¬ cmpS s t < 0 by omega)
    have h2 := same_no h
    rw [h, orI_of (by decide)]
    go_enter Try.func59, Try.ntmps59
    go_wp2_with fail
    go_ret
    exact ⟨rfl, below_two _ _⟩
end Go.Proofs.Ytfnpfkgmacaboaa

/-
  The specification's comparison of values.
-/
namespace Go.Proofs.Ytfnpfkgmacaboaa
open Go.ChangeShapes Go.WideShapes Go.ChangeAt Go.RowKit
set_option linter.unusedVariables false
set_option linter.unusedSimpArgs false

theorem rvalue_any (k1 n1 k2 n2 : Int) (s1 s2 : ByteArray) (w : World) : Calls Try.prog 60 #[.agg #[.int .i64 k1, .int .i64 n1, .string s1], .agg #[.int .i64 k2, .int .i64 n2, .string s2]] w fun e w' => e = .returned (.int .i64 (orI (cmpI k1 k2) (orI (cmpI n1 n2) (cmpS s1 s2)))) ∧ Below w.heap.size w w' := by
  have HK := Lib.hid (fun w => order5_any k1 k2 w)
  have HN := Lib.hid (fun w => order5_any n1 n2 w)
  by_cases hk : k1 = k2
  · subst hk
    have hk1 : (k1 != k1) = false := by simp
    rw [cmpI_eq, orI_then]
    by_cases hn : n1 = n2
    · subst hn
      have hn1 : (n1 != n1) = false := by simp
      rw [cmpI_eq, orI_then]
      rcases cmpS_ends s1 s2 with h | h | h
      · have h1 := less_yes (show cmpS s1 s2 < 0 by omega)
        rw [h]
        go_enter Try.func60, Try.ntmps60
        go_wp2_with fail
        go_ret
        exact ⟨rfl, below_two _ _⟩
      · have h1 := less_no (show ¬ cmpS s1 s2 < 0 by omega)
        have h2 := same_yes h
        rw [h]
        go_enter Try.func60, Try.ntmps60
        go_wp2_with fail
        go_ret
        exact ⟨rfl, below_two _ _⟩
      · have h1 := less_no (show ¬ cmpS s1 s2 < 0 by omega)
        have h2 := same_no h
        rw [h]
        go_enter Try.func60, Try.ntmps60
        go_wp2_with fail
        go_ret
        exact ⟨rfl, below_two _ _⟩
    · have hn1 : (n1 != n2) = true := by simpa using hn
      rw [orI_of (fun e => hn ((cmpI_cmp.zero _ _).1 e))]
      generalize cmpI n1 n2 = r at *
      go_enter Try.func60, Try.ntmps60
      go_wp2_with (go_at_call 76; (with_reducible refine (HN.out _).mono ?_); rintro e w1 ⟨rfl, rfl⟩)
      go_ret
      exact ⟨rfl, below_two _ _⟩
  · have hk1 : (k1 != k2) = true := by simpa using hk
    rw [orI_of (fun e => hk ((cmpI_cmp.zero _ _).1 e))]
    generalize cmpI k1 k2 = r at *
    go_enter Try.func60, Try.ntmps60
    go_wp2_with (go_at_call 76; (with_reducible refine (HK.out _).mono ?_); rintro e w1 ⟨rfl, rfl⟩)
    go_ret
    exact ⟨rfl, below_two _ _⟩
end Go.Proofs.Ytfnpfkgmacaboaa

/-
  The specification's comparison of rows by event and identifier.
-/
namespace Go.Proofs.Ytfnpfkgmacaboaa
open Go.ChangeShapes Go.WideShapes Go.ChangeAt Go.RowKit
set_option linter.unusedVariables false
set_option linter.unusedSimpArgs false

theorem rrow_any (s t tb tb2 ky ky2 : ByteArray) (m n e1 e2 no no2 tk tk2 : Int) (f f2 : Option Addr) (l c l2 c2 : Nat) (w : World) :
    Calls Try.prog 41 #[.agg #[.string s, .int .i64 m, .string tb, .string ky, .int .i64 e1, .slice f l c, .int .i64 no, .int .i64 tk], .agg #[.string t, .int .i64 n, .string tb2, .string ky2, .int .i64 e2, .slice f2 l2 c2, .int .i64 no2, .int .i64 tk2]] w
      fun e w' => e = .returned (.int .i64 (orI (cmpI e1 e2) (orI (cmpS s t) (cmpI m n)))) ∧ Below w.heap.size w w' := by
  have HE := Lib.hid (fun w => rcompare_any e1 e2 w)
  have HI := Lib.hid (fun w => rid_any s t m n w)
  by_cases he : cmpI e1 e2 = 0
  · rw [he, orI_then]
    rw [he] at HE
    generalize orI (cmpS s t) (cmpI m n) = r at *
    go_enter Try.func41, Try.ntmps41
    go_wp2_with (first | (go_at_call 58; (with_reducible refine (HE.out _).mono ?_); rintro e w1 ⟨rfl, rfl⟩) | (go_at_call 59; (with_reducible refine (HI.out _).mono ?_); rintro e w1 ⟨rfl, hb⟩; have HB := Lib.hid hb; clear hb))
    go_ret
    exact ⟨rfl, (below_two _ _).trans (HB.out.mono (by simp; omega))⟩
  · have hne : (cmpI e1 e2 != 0) = true := by simpa using he
    rw [orI_of he]
    generalize cmpI e1 e2 = r at *
    go_enter Try.func41, Try.ntmps41
    go_wp2_with (go_at_call 58; (with_reducible refine (HE.out _).mono ?_); rintro e w1 ⟨rfl, rfl⟩)
    go_ret
    exact ⟨rfl, below_two _ _⟩
end Go.Proofs.Ytfnpfkgmacaboaa
