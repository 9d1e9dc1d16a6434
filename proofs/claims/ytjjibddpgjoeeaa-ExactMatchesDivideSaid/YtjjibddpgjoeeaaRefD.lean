import Derived.Test.YtjjibddpgjoeeaaRefC
import Derived.Test.YtjjibddpgjoeeaaG
namespace Go.Proofs.Ytjjibddpgjoeeaa
open Go.ChangeShapes Go.WideShapes Go.ChangeAt Go.RowKit

theorem rcompare_lt (a b : Int) (h : norm a < norm b) (w : World) :
    Calls Try.prog 29 #[.agg #[.int .i64 (whi a), .int .u64 (wlo a)], .agg #[.int .i64 (whi b), .int .u64 (wlo b)]] w fun e w' => e = .returned (.int .i64 (-1)) ∧ Below w.heap.size w w' := by
  rcases (norm_lt a b).1 h with h | ⟨h, k⟩
  · have e1 : (whi a == whi b) = false := by simp; omega
    go_enter Try.func29, Try.ntmps29
    go_wp2
    go_ret
    exact ⟨rfl, ((Below.refl _ _).alloc (Nat.le_refl _) _).alloc (by simp) _⟩
  · have e1 : (whi a == whi b) = true := by simp; omega
    have e2 : (wlo a == wlo b) = false := by simp; omega
    have e3 : ¬ whi a < whi b := by omega
    clear h
    go_enter Try.func29, Try.ntmps29
    go_wp2
    go_ret
    exact ⟨rfl, ((Below.refl _ _).alloc (Nat.le_refl _) _).alloc (by simp) _⟩
set_option maxHeartbeats 1000000 in
theorem rcompare_eq (a b : Int) (h : norm a = norm b) (w : World) :
    Calls Try.prog 29 #[.agg #[.int .i64 (whi a), .int .u64 (wlo a)], .agg #[.int .i64 (whi b), .int .u64 (wlo b)]] w fun e w' => e = .returned (.int .i64 0) ∧ Below w.heap.size w w' := by
  obtain ⟨h, k⟩ := (norm_eq a b).1 h
  have e1 : (whi a == whi b) = true := by simp; omega
  have e2 : (wlo a == wlo b) = true := by simp; omega
  have e3 : ¬ whi a < whi b := by omega
  have e4 : ¬ wlo a < wlo b := by omega
  rw [← h, ← k] at *
  clear h k
  go_enter Try.func29, Try.ntmps29
  go_wp2_with fail
  go_ret
  exact ⟨rfl, ((Below.refl _ _).alloc (Nat.le_refl _) _).alloc (by simp) _⟩
theorem Open2.own {w : World} {R : Nat} (h : Open2 w R) (x y : Value) : Open2 ((w.setCell ⟨R, 0, none⟩ x).setCell ⟨R, 1, none⟩ y) R := by
  have e := twoset (x := x) (y := y) h.r0 h.r1
  exact ⟨by rw [e.1]; rfl, by rw [e.2]; rfl, by rw [World.frozen?_setCell, World.frozen?_setCell]; exact h.f0, by rw [World.frozen?_setCell, World.frozen?_setCell]; exact h.f1⟩
theorem keepT {B : Nat} {w0 w : World} (h : Below B w0 w) (g : Nat) (hg : B ≤ g) (x y : Value) : Below B w0 ((w.setCell ⟨g, 0, none⟩ x).setCell ⟨g, 1, none⟩ y) := (h.setCell hg x).setCell hg y
theorem rneg_any (a : Int) (w : World) :
    Calls Try.prog 26 #[.agg #[.int .i64 (whi a), .int .u64 (wlo a)]] w fun e w' => e = .returned (.agg #[.int .i64 (whi (-a)), .int .u64 (wlo (-a))]) ∧ Below w.heap.size w w' := by
  have o := Lib.hid (fun w => refOf_any 0 w (by decide) (by decide))
  have s := Lib.hid (fun w => by have h := refSub_any 0 a w; rw [show (0 - a) = -a by omega] at h; exact h)
  go_enter Try.func26, Try.ntmps26
  go_wp2_with fail
  refine wp_gen (fun W hW => ?_)
  have HB : Below w.heap.size w W := by rw [hW]; exact ((Below.refl _ _).alloc (Nat.le_refl _) _).alloc (by simp) _
  have hB : w.heap.size + 1 ≤ W.heap.size := by rw [hW]; simp
  have k0 : W.cell? ⟨w.heap.size, 0, none⟩ = some (.int .i64 (whi a)) := by rw [hW]; simp [go_sem]
  have k1 : W.cell? ⟨w.heap.size, 1, none⟩ = some (.int .u64 (wlo a)) := by rw [hW]; simp [go_sem]
  have HR : Hid (Open2 W (w.heap.size + 1)) := by rw [hW]; exact ⟨by simp [go_sem], by simp [go_sem], by simp [go_sem], by simp [go_sem]⟩
  clear hW
  have HS : Hid (∀ w', Below (w.heap.size + 1) W w' → Open2 w' (w.heap.size + 1) → (Below (w.heap.size + 1) W w' ∧ Open2 w' (w.heap.size + 1)) ∧ w'.cell? ⟨w.heap.size, 0, none⟩ = some (.int .i64 (whi a)) ∧ w'.cell? ⟨w.heap.size, 1, none⟩ = some (.int .u64 (wlo a))) :=
    fun w' h h2 => ⟨⟨h, h2⟩, (h.cell (by simp)).trans k0, (h.cell (by simp)).trans k1⟩
  go_region_held3 (fun w' => (Below (w.heap.size + 1) W w' ∧ Open2 w' (w.heap.size + 1)) ∧ w'.cell? ⟨w.heap.size, 0, none⟩ = some (.int .i64 (whi a)) ∧ w'.cell? ⟨w.heap.size, 1, none⟩ = some (.int .u64 (wlo a)))
    (first | exact HS.out _ (Below.refl _ _).drew HR.out.drew | exact HS.out _ (keepB hB (And.left (And.left (by assumption))) hb) (Open2.kept (And.right (And.left (by assumption))) hb) | exact HS.out _ (keepT (And.left (And.left (by assumption))) _ (Nat.le_refl _) _ _) (Open2.own (And.right (And.left (by assumption))) _ _) | exact HS.out _ (keepT (And.left (And.left (by assumption : (Below (w.heap.size + 1) W w' ∧ Open2 w' (w.heap.size + 1)) ∧ _))) _ (Nat.le_refl _) _ _) (Open2.own (And.right (And.left (by assumption : (Below (w.heap.size + 1) W w' ∧ Open2 w' (w.heap.size + 1)) ∧ _))) _ _))
    (first
     | (go_at_call 27; refine (o.out _).mono ?_; rintro e w' ⟨rfl, hb⟩)
     | (go_at_call 24; refine (s.out _).mono ?_; rintro e w' ⟨rfl, hb⟩; have hO := Open2.kept (And.right (And.left (by assumption : (Below (w.heap.size + 1) W _ ∧ Open2 _ (w.heap.size + 1)) ∧ _))) hb; obtain ⟨y0, hy0⟩ := Option.isSome_iff_exists.1 hO.r0; obtain ⟨y1, hy1⟩ := Option.isSome_iff_exists.1 hO.r1; have hf0 := hO.f0; have hf1 := hO.f1))
  all_goals
    have HL := And.left (And.left (by assumption : (Below (w.heap.size + 1) W _ ∧ Open2 _ (w.heap.size + 1)) ∧ _))
    have E2 := Lib.hid (twoset (x := .int .i64 (whi (-a))) (y := .int .u64 (wlo (-a))) hO.r0 hO.r1)
    go_wp2_with fail
    refine bodyPost_ret (v := .agg #[.int .i64 (whi (-a)), .int .u64 (wlo (-a))]) ?_ rfl ⟨rfl, HB.trans (HL.mono (by omega))⟩
    simp [results, Try.results26, go_sem, E2.out.1, E2.out.2]

theorem rcompare_gt (a b : Int) (h : norm b < norm a) (w : World) :
    Calls Try.prog 29 #[.agg #[.int .i64 (whi a), .int .u64 (wlo a)], .agg #[.int .i64 (whi b), .int .u64 (wlo b)]] w fun e w' => e = .returned (.int .i64 1) ∧ Below w.heap.size w w' := by
  rcases (norm_lt b a).1 h with h | ⟨h, k⟩
  · have e1 : (whi a == whi b) = false := by simp; omega
    have e3 : ¬ whi a < whi b := by omega
    go_enter Try.func29, Try.ntmps29
    go_wp2
    go_ret
    exact ⟨rfl, ((Below.refl _ _).alloc (Nat.le_refl _) _).alloc (by simp) _⟩
  · have e1 : (whi a == whi b) = true := by simp; omega
    have e2 : (wlo a == wlo b) = false := by simp; omega
    have e3 : ¬ whi a < whi b := by omega
    have e4 : ¬ wlo a < wlo b := by omega
    clear h
    go_enter Try.func29, Try.ntmps29
    go_wp2
    go_ret
    exact ⟨rfl, ((Below.refl _ _).alloc (Nat.le_refl _) _).alloc (by simp) _⟩
theorem rcompare_any (a b : Int) (w : World) :
    Calls Try.prog 29 #[.agg #[.int .i64 (whi a), .int .u64 (wlo a)], .agg #[.int .i64 (whi b), .int .u64 (wlo b)]] w fun e w' => e = .returned (.int .i64 (cmp3 (norm a) (norm b))) ∧ Below w.heap.size w w' := by
  unfold cmp3
  by_cases h1 : norm a < norm b
  · rw [if_pos h1]; exact rcompare_lt a b h1 w
  · rw [if_neg h1]
    by_cases h2 : norm a = norm b
    · rw [if_pos h2]; exact rcompare_eq a b h2 w
    · rw [if_neg h2]; exact rcompare_gt a b (by omega) w
end Go.Proofs.Ytjjibddpgjoeeaa
