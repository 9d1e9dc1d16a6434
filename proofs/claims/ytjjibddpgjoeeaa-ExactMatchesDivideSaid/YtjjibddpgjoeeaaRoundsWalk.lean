import Derived.Test.YtjjibddpgjoeeaaG
namespace Go.Proofs.Ytjjibddpgjoeeaa
open Go.ChangeShapes Go.WideShapes Go.ChangeAt Go.RowKit

theorem keepA {w0 w : World} (h : Below w0.heap.size w0 w) (o : Obj) : Below w0.heap.size w0 (w.alloc o) := h.alloc h.size o
theorem twoset {w : World} {g : Nat} {x y : Value} (h0 : (w.cell? ⟨g, 0, none⟩).isSome = true) (h1 : (w.cell? ⟨g, 1, none⟩).isSome = true) :
    ((w.setCell ⟨g, 0, none⟩ x).setCell ⟨g, 1, none⟩ y).cell? ⟨g, 0, none⟩ = some x ∧ ((w.setCell ⟨g, 0, none⟩ x).setCell ⟨g, 1, none⟩ y).cell? ⟨g, 1, none⟩ = some y := by
  refine ⟨?_, ?_⟩
  · exact (World.cell?_setCell_other _ ⟨g, 1, none⟩ ⟨g, 0, none⟩ y (by simp)).trans (World.cell?_setCell_same' _ _ _ h0)
  · refine World.cell?_setCell_same' _ _ _ ?_
    have e := World.cell?_setCell_other w ⟨g, 0, none⟩ ⟨g, 1, none⟩ x (by simp)
    rw [e]
    exact h1
theorem cutIn {p q : Prop} (h : p) (k : p → q) : q := k h
theorem keepS {w0 w : World} (h : Below w0.heap.size w0 w) (g : Nat) (hg : w0.heap.size ≤ g) (x y : Value) : Below w0.heap.size w0 ((w.setCell ⟨g, 0, none⟩ x).setCell ⟨g, 1, none⟩ y) := (h.setCell hg x).setCell hg y
theorem rounds_off (a d : Int)
    (DV : ∀ w, Calls Try.prog 18 #[.agg #[.int .i64 (whi a), .int .u64 (wlo a)], .int .i64 d] w fun e w' => e = .returned (.tuple #[.int .i64 0, .bool false]) ∧ Below w.heap.size w w') (w : World) :
    Calls Try.prog 10 #[.agg #[.int .i64 (whi a), .int .u64 (wlo a)], .int .i64 d] w fun e w' => e = .returned (.bool true) ∧ Below w.heap.size w w' := by
  have DV' := Lib.hid DV; clear DV
  go_enter Try.func10, Try.ntmps10
  go_wp2_with fail
  refine (example_any _).mono ?_
  rintro e w1 ⟨rfl, hb1⟩
  obtain ⟨hk1, hf1⟩ := bsome hb1
  go_wp2_with fail
  refine (DV'.out _).mono ?_
  rintro e w2 ⟨rfl, hb2⟩
  go_wp2_with fail
  go_ret
  exact ⟨rfl, ((Below.refl _ _).alloc (Nat.le_refl _) _ |>.trans (hb1.mono (by simp))).trans (hb2.mono (by have := hb1.size; simp at this; omega))⟩

set_option maxHeartbeats 2000000 in
theorem rounds_on (a d q R r y : Int) (d1 : -9223372036854775808 ≤ d) (d2 : d ≤ 9223372036854775807) (hd : d ≠ 0) (q1 : -1152921504606846976 ≤ q) (q2 : q ≤ 1152921504606846976)
    (hR : eqv (a - q * d) R) (hr : r = absI R) (hy : y = absI d) (h2 : r + r ≤ y) (hev : r + r = y → q % 2 = 0)
    (DV : ∀ w, Calls Try.prog 18 #[.agg #[.int .i64 (whi a), .int .u64 (wlo a)], .int .i64 d] w fun e w' => e = .returned (.tuple #[.int .i64 q, .bool true]) ∧ Below w.heap.size w w') (w : World) :
    Calls Try.prog 10 #[.agg #[.int .i64 (whi a), .int .u64 (wlo a)], .int .i64 d] w fun e w' => e = .returned (.bool true) ∧ Below w.heap.size w w' := by
  have DV' := Lib.hid DV; clear DV
  have hy2 : y ≤ 9223372036854775808 := by subst hy; unfold absI; split <;> omega
  have r0 : 0 ≤ r := by subst hr; exact absI_nonneg _
  have m := Lib.hid (mul_any q d (by omega) (by omega) d1 d2)
  have s := Lib.hid (fun w => by have h := sub_any a (q * d) w; rw [(halves_eqv hR).1, (halves_eqv hR).2] at h; exact h)
  have nR : norm R = R := norm_in R (by unfold absI at hr; split at hr <;> omega) (by unfold absI at hr; split at hr <;> omega)
  have ab := Lib.hid (absolute_any R r (by rw [hr, nR]; rfl))
  have ad := Lib.hid (add_any r r)
  have o := Lib.hid (of_any d (h1 := d1) (h2 := d2))
  have ab2 := Lib.hid (absolute_any d y (by rw [hy, norm_int d d1 d2]; rfl))
  have n1 : norm (r + r) = r + r := norm_in _ (by omega) (by omega)
  have n2 : norm y = y := norm_in _ (by omega) (by omega)
  have hd' : (d == 0) = false := by simp; omega
  have cp : r + r < y ∧ Hid (∀ w, Calls Try.prog 28 #[.agg #[.int .i64 (whi (r + r)), .int .u64 (wlo (r + r))], .agg #[.int .i64 (whi y), .int .u64 (wlo y)]] w fun e w' => e = .returned (.int .i64 (-1)) ∧ Below w.heap.size w w') ∨
      (q.tmod 2 == 0) = true ∧ Hid (∀ w, Calls Try.prog 28 #[.agg #[.int .i64 (whi (r + r)), .int .u64 (wlo (r + r))], .agg #[.int .i64 (whi y), .int .u64 (wlo y)]] w fun e w' => e = .returned (.int .i64 0) ∧ Below w.heap.size w w') := by
    by_cases h : r + r = y
    · right
      refine ⟨?_, fun w => compare_eq _ _ (by rw [n1, n2]; exact h) w⟩
      have := hev h
      simp only [beq_iff_eq]
      exact Int.tmod_eq_zero_of_dvd (Int.dvd_of_emod_eq_zero this)
    · left
      exact ⟨by omega, fun w => compare_lt _ _ (by rw [n1, n2]; omega) w⟩
  clear hR hr hy hev nR n1 n2 h2 hy2
  have hq1 : ¬ q < -1152921504606846976 := by omega
  have hq2 : ¬ 1152921504606846976 < q := by omega
  clear hd
  rcases cp with ⟨-, cp⟩ | ⟨hmod, cp⟩
  all_goals
    go_enter Try.func10, Try.ntmps10
    go_wp2_with fail
    refine (example_any _).mono ?_
    rintro e w1 ⟨rfl, hb1⟩
    obtain ⟨hk1, hf1⟩ := bsome hb1
    have hz1 := hb1.size
    simp at hz1
    have ca1 : w1.cell? ⟨w.heap.size, 0, none⟩ = some (.int .i64 (whi a)) := by rw [hk1 _ (by simp [go_sem])]; simp [go_sem]
    have cb1 : w1.cell? ⟨w.heap.size, 1, none⟩ = some (.int .u64 (wlo a)) := by rw [hk1 _ (by simp [go_sem])]; simp [go_sem]
    have HB1 : Below w.heap.size w w1 := ((Below.refl _ _).alloc (Nat.le_refl _) _).trans (hb1.mono (by simp))
    clear hk1 hf1 hb1
    go_wp2_with fail
    refine (DV'.out _).mono ?_
    rintro e w2 ⟨rfl, hb2⟩
    have hz2 := hb2.size
    have ca2 : w2.cell? ⟨w.heap.size, 0, none⟩ = some (.int .i64 (whi a)) := by rw [hb2.cell (by simp; omega), ca1]
    have cb2 : w2.cell? ⟨w.heap.size, 1, none⟩ = some (.int .u64 (wlo a)) := by rw [hb2.cell (by simp; omega), cb1]
    have HB2 : Below w.heap.size w w2 := HB1.trans (hb2.mono (by omega))
    have hlt : w.heap.size < w2.heap.size := by omega
    clear ca1 cb1 hb2 hz1 hz2 HB1
    have HS : Hid (∀ w', Below w2.heap.size w2 w' → Below w2.heap.size w2 w' ∧ w'.cell? ⟨w.heap.size, 0, none⟩ = some (.int .i64 (whi a)) ∧ w'.cell? ⟨w.heap.size, 1, none⟩ = some (.int .u64 (wlo a))) :=
      fun w' h => ⟨h, (h.cell hlt).trans ca2, (h.cell hlt).trans cb2⟩
    go_upto_region 7 with fail
    go_cut [8] (fun p wx => ∃ g : Nat, p = .pointer (some ⟨g, 0, none⟩) ∧ wx.cell? ⟨g, 0, none⟩ = some (.int .i64 (whi r)) ∧ wx.cell? ⟨g, 1, none⟩ = some (.int .u64 (wlo r)) ∧ Below w2.heap.size w2 wx)
    case first =>
      go_region_held3 (fun w' => Below w2.heap.size w2 w' ∧ w'.cell? ⟨w.heap.size, 0, none⟩ = some (.int .i64 (whi a)) ∧ w'.cell? ⟨w.heap.size, 1, none⟩ = some (.int .u64 (wlo a)))
        (first | exact HS.out _ ((Below.refl _ _).drew) | exact HS.out _ (keepB (Nat.le_refl _) (And.left (by assumption)) hb) | exact HS.out _ (keepA (And.left (by assumption)) _) | exact HS.out _ (keepA (by assumption) _) | exact HS.out _ (keepS (And.left (by assumption)) _ (Nat.le_refl _) _ _) | exact HS.out _ (keepS (And.left (by assumption)) _ (Below.size (by assumption)) _ _))
        (first
         | (go_at_call 14; refine (m.out _).mono ?_; rintro e w' ⟨rfl, hb⟩; have hB := keepB (Nat.le_refl _) (And.left (by assumption : Below w2.heap.size w2 _ ∧ _)) hb; obtain ⟨hk, hf⟩ := bsome hb; try (refine cutIn (p := w'.cell? ⟨w2.heap.size, 0, none⟩ = some (.int .i64 0) ∧ w'.cell? ⟨w2.heap.size, 1, none⟩ = some (.int .u64 0) ∧ w'.frozen? ⟨w2.heap.size, 0, none⟩ = false ∧ w'.frozen? ⟨w2.heap.size, 1, none⟩ = false) ?_ (fun c0 => ?_); focus (refine ⟨?_, ?_, ?_, ?_⟩ <;> (go_simp; done))))
         | (go_at_call 23; refine (s.out _).mono ?_; rintro e w' ⟨rfl, hb⟩; have hB := keepB (Nat.le_refl _) (And.left (by assumption : Below w2.heap.size w2 _ ∧ _)) hb; obtain ⟨hk, hf⟩ := bsome hb; try (refine cutIn (p := w'.cell? ⟨w2.heap.size, 0, none⟩ = some (.int .i64 0) ∧ w'.cell? ⟨w2.heap.size, 1, none⟩ = some (.int .u64 0) ∧ w'.frozen? ⟨w2.heap.size, 0, none⟩ = false ∧ w'.frozen? ⟨w2.heap.size, 1, none⟩ = false) ?_ (fun c0 => ?_); focus (refine ⟨?_, ?_, ?_, ?_⟩ <;> (go_simp; done))))
         | (go_at_call 30; refine (ab.out _).mono ?_; rintro e w' ⟨rfl, hb⟩; have hB := keepB (Nat.le_refl _) (And.left (by assumption : Below w2.heap.size w2 _ ∧ _)) hb; obtain ⟨hk, hf⟩ := bsome hb; try (refine cutIn (p := w'.cell? ⟨w2.heap.size, 0, none⟩ = some (.int .i64 0) ∧ w'.cell? ⟨w2.heap.size, 1, none⟩ = some (.int .u64 0) ∧ w'.frozen? ⟨w2.heap.size, 0, none⟩ = false ∧ w'.frozen? ⟨w2.heap.size, 1, none⟩ = false) ?_ (fun c0 => ?_); focus (refine ⟨?_, ?_, ?_, ?_⟩ <;> (go_simp; done)))))
      all_goals
        have HL := And.left (by assumption : Below w2.heap.size w2 _ ∧ _)
        go_wp2_with fail
        go_meet
        refine ⟨_, rfl, ?_, ?_, HL⟩
        all_goals first
          | (go_simp; done)
          | (refine (twoset ?_ ?_).1 <;> (go_simp; done))
          | (refine (twoset ?_ ?_).2 <;> (go_simp; done))
    case rest =>
      obtain ⟨g, rfl, k0, k1, HB3⟩ := hcut
      have HB4 : Below w.heap.size w wc := HB2.trans (HB3.mono (by omega))
      have hz3 := HB3.size
      clear HB2 HB3 ca2 cb2 HS
      go_wp2_with fail
      refine (ad.out _).mono ?_
      rintro e w4 ⟨rfl, hb4⟩
      have HB5 := HB4.trans (hb4.mono HB4.size)
      clear hb4 HB4
      go_wp2_with fail
      refine (o.out _).mono ?_
      rintro e w5 ⟨rfl, hb5⟩
      have HB6 := HB5.trans (hb5.mono HB5.size)
      clear hb5 HB5
      go_wp2_with fail
      refine (ab2.out _).mono ?_
      rintro e w6 ⟨rfl, hb6⟩
      have HB7 := HB6.trans (hb6.mono HB6.size)
      clear hb6 HB6
      go_wp2_with fail
      refine (cp.out _).mono ?_
      rintro e w7 ⟨rfl, hb7⟩
      have HB8 := HB7.trans (hb7.mono HB7.size)
      clear hb7 HB7
      go_wp2_with fail
      go_ret
      exact ⟨rfl, HB8⟩

theorem rounds_walk (a d : Int) (d1 : -9223372036854775808 ≤ d) (d2 : d ≤ 9223372036854775807) (w : World) :
    Calls Try.prog 10 #[.agg #[.int .i64 (whi a), .int .u64 (wlo a)], .int .i64 d] w fun e w' => e = .returned (.bool true) ∧ Below w.heap.size w w' := by
  have DV := fun w => divide_any a d d1 d2 w
  by_cases h : d = 0 ∨ 1152921504606846976 < upq (absI (norm a)) (absI d)
  · rw [rounds_none _ _ h] at DV
    exact rounds_off a d DV w
  · obtain ⟨q, e, q1, q2, h2, hev⟩ := rounds_plain (norm a) d (by omega) (by omega)
    rw [e] at DV
    exact rounds_on a d q (norm a - q * d) (absI (norm a - q * d)) (absI d) d1 d2 (by omega) q1 q2 (eqv_sub (eqv_symm (norm_eqv a)) (eqv_refl _)) rfl rfl (by omega) (by omega) DV w
end Go.Proofs.Ytjjibddpgjoeeaa
