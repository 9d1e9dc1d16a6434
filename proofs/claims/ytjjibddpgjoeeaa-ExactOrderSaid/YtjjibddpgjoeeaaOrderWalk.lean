import Derived.Test.YtjjibddpgjoeeaaRoundsWalk
namespace Go.Proofs.Ytjjibddpgjoeeaa
open Go.ChangeShapes Go.WideShapes Go.ChangeAt Go.RowKit

theorem cmp3_bd (a b : Int) : -1 ≤ cmp3 a b ∧ cmp3 a b ≤ 1 := by unfold cmp3; split <;> (try split) <;> omega
theorem cmp3_swap (a b : Int) : cmp3 b a = -cmp3 a b := by unfold cmp3; split <;> split <;> (try split) <;> (try split) <;> omega
theorem cmp3_zero (a b : Int) : cmp3 a b = 0 ↔ a = b := by unfold cmp3; split <;> (try split) <;> omega
theorem cmp3_neg (a b : Int) : cmp3 a b < 0 ↔ a < b := by unfold cmp3; split <;> (try split) <;> omega
theorem cmp3_pos (a b : Int) : 0 < cmp3 a b ↔ b < a := by unfold cmp3; split <;> (try split) <;> omega
theorem cmp3_shift (a b c : Int) : cmp3 (a + c) (b + c) = cmp3 a b := by unfold cmp3; split <;> split <;> (try split) <;> (try split) <;> omega

theorem norm_def' (n : Int) : norm n = whi n * 18446744073709551616 + wlo n := by unfold norm; rfl
/-- Is one of the three higher halves outside a quarter? -/
def outB (x y z : Int) : Bool := decide (x < -2305843009213693952) || decide (2305843009213693952 ≤ x) || decide (y < -2305843009213693952) || decide (2305843009213693952 ≤ y) || decide (z < -2305843009213693952) || decide (2305843009213693952 ≤ z)
set_option maxRecDepth 100000 in
set_option maxHeartbeats 4000000 in
theorem order_core (a b c n m x y z v : Int) (n1 : -9223372036854775808 ≤ n) (n2 : n ≤ 9223372036854775807) (m1 : -9223372036854775808 ≤ m) (m2 : m ≤ 9223372036854775807)
    (cx : ∀ w, Calls Try.prog 28 #[.agg #[.int .i64 (whi a), .int .u64 (wlo a)], .agg #[.int .i64 (whi b), .int .u64 (wlo b)]] w fun e w' => e = .returned (.int .i64 x) ∧ Below w.heap.size w w')
    (cy : ∀ w, Calls Try.prog 28 #[.agg #[.int .i64 (whi b), .int .u64 (wlo b)], .agg #[.int .i64 (whi c), .int .u64 (wlo c)]] w fun e w' => e = .returned (.int .i64 y) ∧ Below w.heap.size w w')
    (cz : ∀ w, Calls Try.prog 28 #[.agg #[.int .i64 (whi a), .int .u64 (wlo a)], .agg #[.int .i64 (whi c), .int .u64 (wlo c)]] w fun e w' => e = .returned (.int .i64 z) ∧ Below w.heap.size w w')
    (cs : ∀ w, Calls Try.prog 28 #[.agg #[.int .i64 (whi b), .int .u64 (wlo b)], .agg #[.int .i64 (whi a), .int .u64 (wlo a)]] w fun e w' => e = .returned (.int .i64 (-x)) ∧ Below w.heap.size w w')
    (cv : ∀ w, Calls Try.prog 28 #[.agg #[.int .i64 (whi n), .int .u64 (wlo n)], .agg #[.int .i64 (whi m), .int .u64 (wlo m)]] w fun e w' => e = .returned (.int .i64 v) ∧ Below w.heap.size w w')
    (ct : (-2305843009213693952 ≤ whi a ∧ whi a < 2305843009213693952 ∧ -2305843009213693952 ≤ whi b ∧ whi b < 2305843009213693952 ∧ -2305843009213693952 ≤ whi c ∧ whi c < 2305843009213693952) →
      (∀ w, Calls Try.prog 28 #[.agg #[.int .i64 (whi (a + c)), .int .u64 (wlo (a + c))], .agg #[.int .i64 (whi (b + c)), .int .u64 (wlo (b + c))]] w fun e w' => e = .returned (.int .i64 x) ∧ Below w.heap.size w w') ∧ decide (whi (a - b) < 0) = decide (x < 0))
    (x1 : -1 ≤ x) (x2 : x ≤ 1) (heq : x = 0 ∧ whi a = whi b ∧ wlo a = wlo b ∨ x ≠ 0 ∧ (whi a ≠ whi b ∨ whi a = whi b ∧ wlo a ≠ wlo b)) (htr : x ≤ 0 → y ≤ 0 → z ≤ 0) (hv1 : v < 0 ↔ n < m) (hv2 : 0 < v ↔ m < n) (w : World) :
    Calls Try.prog 9 #[.agg #[.int .i64 (whi a), .int .u64 (wlo a)], .agg #[.int .i64 (whi b), .int .u64 (wlo b)], .agg #[.int .i64 (whi c), .int .u64 (wlo c)], .int .i64 n, .int .i64 m] w fun e w' => e = .returned (.bool true) ∧ Below w.heap.size w w' := by
  have CX := Lib.hid cx; have CY := Lib.hid cy; have CZ := Lib.hid cz; have CS := Lib.hid cs; have CV := Lib.hid cv; have CT := Lib.hid ct
  clear cx cy cz cs cv ct
  have HEQ := Lib.hid heq; have HTR := Lib.hid htr; have HV1 := Lib.hid hv1; have HV2 := Lib.hid hv2
  clear heq htr hv1 hv2
  have on := Lib.hid (of_any n (h1 := n1) (h2 := n2))
  have om := Lib.hid (of_any m (h1 := m1) (h2 := m2))
  have aac := Lib.hid (add_any a c)
  have abc := Lib.hid (add_any b c)
  have sab := Lib.hid (sub_any a b)
  go_enter Try.func9, Try.ntmps9
  go_wp2_with fail
  refine (example_any _).mono ?_
  rintro e W ⟨rfl, hb1⟩
  have hz1 := hb1.size
  simp at hz1
  have f0 : W.cell? ⟨w.heap.size, 0, none⟩ = some (.int .i64 (whi a)) := by rw [hb1.cell (by simp; try omega)]; simp [go_sem]
  have f1 : W.cell? ⟨w.heap.size, 1, none⟩ = some (.int .u64 (wlo a)) := by rw [hb1.cell (by simp; try omega)]; simp [go_sem]
  have f2 : W.cell? ⟨w.heap.size + 1, 0, none⟩ = some (.int .i64 (whi b)) := by rw [hb1.cell (by simp; try omega)]; simp [go_sem]
  have f3 : W.cell? ⟨w.heap.size + 1, 1, none⟩ = some (.int .u64 (wlo b)) := by rw [hb1.cell (by simp; try omega)]; simp [go_sem]
  have f4 : W.cell? ⟨w.heap.size + 1 + 1, 0, none⟩ = some (.int .i64 (whi c)) := by rw [hb1.cell (by simp; try omega)]; simp [go_sem]
  have f5 : W.cell? ⟨w.heap.size + 1 + 1, 1, none⟩ = some (.int .u64 (wlo c)) := by rw [hb1.cell (by simp; try omega)]; simp [go_sem]
  have HB : Below w.heap.size w W := ((((Below.refl _ _).alloc (Nat.le_refl _) _).alloc (by simp) _).alloc (by simp; omega) _).trans (hb1.mono (by simp; omega))
  have hlt : w.heap.size + 1 + 1 < W.heap.size := by omega
  have HS : Hid (∀ w', Below W.heap.size W w' → Below W.heap.size W w' ∧ w'.cell? ⟨w.heap.size, 0, none⟩ = some (.int .i64 (whi a)) ∧ w'.cell? ⟨w.heap.size, 1, none⟩ = some (.int .u64 (wlo a)) ∧ w'.cell? ⟨w.heap.size + 1, 0, none⟩ = some (.int .i64 (whi b)) ∧ w'.cell? ⟨w.heap.size + 1, 1, none⟩ = some (.int .u64 (wlo b)) ∧ w'.cell? ⟨w.heap.size + 1 + 1, 0, none⟩ = some (.int .i64 (whi c)) ∧ w'.cell? ⟨w.heap.size + 1 + 1, 1, none⟩ = some (.int .u64 (wlo c))) :=
    fun w' h => ⟨h, (h.cell (by simp; omega)).trans f0, (h.cell (by simp; omega)).trans f1, (h.cell (by simp; omega)).trans f2, (h.cell (by simp; omega)).trans f3, (h.cell (by simp; omega)).trans f4, (h.cell (by simp; omega)).trans f5⟩
  have HX : ∀ w', Below W.heap.size W w' → w'.cell? ⟨w.heap.size, 0, none⟩ = some (.int .i64 (whi a)) ∧ w'.cell? ⟨w.heap.size, 1, none⟩ = some (.int .u64 (wlo a)) ∧ w'.cell? ⟨w.heap.size + 1, 0, none⟩ = some (.int .i64 (whi b)) ∧ w'.cell? ⟨w.heap.size + 1, 1, none⟩ = some (.int .u64 (wlo b)) ∧ w'.cell? ⟨w.heap.size + 1 + 1, 0, none⟩ = some (.int .i64 (whi c)) ∧ w'.cell? ⟨w.heap.size + 1 + 1, 1, none⟩ = some (.int .u64 (wlo c)) := fun w' h => (HS.out w' h).2
  clear hb1 hz1 f0 f1 f2 f3 f4 f5
  have HX' := Lib.hid HX
  clear HX
  go_wp2_with fail
  go_region_held3 (fun w' => Below W.heap.size W w' ∧ w'.cell? ⟨w.heap.size, 0, none⟩ = some (.int .i64 (whi a)) ∧ w'.cell? ⟨w.heap.size, 1, none⟩ = some (.int .u64 (wlo a)) ∧ w'.cell? ⟨w.heap.size + 1, 0, none⟩ = some (.int .i64 (whi b)) ∧ w'.cell? ⟨w.heap.size + 1, 1, none⟩ = some (.int .u64 (wlo b)) ∧ w'.cell? ⟨w.heap.size + 1 + 1, 0, none⟩ = some (.int .i64 (whi c)) ∧ w'.cell? ⟨w.heap.size + 1 + 1, 1, none⟩ = some (.int .u64 (wlo c)))
    (first | exact HS.out _ ((Below.refl _ _).drew) | exact HS.out _ (keepB (Nat.le_refl _) (And.left (by assumption)) hb))
    (first
     | (go_at_call_of 28 (#[Value.agg #[Value.int IntKind.i64 (whi a), Value.int IntKind.u64 (wlo a)], Value.agg #[Value.int IntKind.i64 (whi b), Value.int IntKind.u64 (wlo b)]] : Array Value); refine (CX.out _).mono ?_; rintro e w' ⟨rfl, hb⟩)
     | (go_at_call_of 28 (#[Value.agg #[Value.int IntKind.i64 (whi b), Value.int IntKind.u64 (wlo b)], Value.agg #[Value.int IntKind.i64 (whi c), Value.int IntKind.u64 (wlo c)]] : Array Value); refine (CY.out _).mono ?_; rintro e w' ⟨rfl, hb⟩)
     | (go_at_call_of 28 (#[Value.agg #[Value.int IntKind.i64 (whi a), Value.int IntKind.u64 (wlo a)], Value.agg #[Value.int IntKind.i64 (whi c), Value.int IntKind.u64 (wlo c)]] : Array Value); refine (CZ.out _).mono ?_; rintro e w' ⟨rfl, hb⟩))
  have HL : Below W.heap.size W w' := And.left (by assumption)
  go_upto_region 3 with fail
  go_cut [59] (fun t wx => t = .bool false ∧ Below W.heap.size W wx)
  case first =>
    obtain ⟨k0, k1, k2, k3, k4, k5⟩ := HX'.out _ HL
    have done3 : ∀ (P : Prop), (whi a = whi b ∧ wlo a = wlo b ∧ x = 0 → P) → (whi a ≠ whi b → x ≠ 0 → P) → (whi a = whi b → wlo a ≠ wlo b → x ≠ 0 → P) → P := by
      intro P h1 h2 h3
      rcases HEQ.out with ⟨h, h', h''⟩ | ⟨h, h' | ⟨h', h''⟩⟩
      · exact h1 ⟨h', h'', h⟩
      · exact h2 h' h
      · exact h3 h' h'' h
    have D3 := Lib.hid done3
    clear done3
    by_cases hx0 : x ≤ 0
    · by_cases hy0 : y ≤ 0
      · have hz0 : ¬ 0 < z := by have := HTR.out hx0 hy0; omega
        refine D3.out _ (fun h => ?_) (fun h h' => ?_) (fun h h' h'' => ?_)
        · obtain ⟨h1, h2, hx⟩ := h
          subst hx
          have e1 : (whi a == whi b) = true := by simp; omega
          have e2 : (wlo a == wlo b) = true := by simp; omega
          clear h1 h2
          go_wp2_with (go_at_call 28; refine (CS.out _).mono ?_; rintro e w5 ⟨rfl, hb5⟩; obtain ⟨hk, hf⟩ := bsome hb5)
          go_meet
          exact ⟨by first | (simp; omega) | rfl, HL.trans (hb5.mono HL.size)⟩
        · have e1 : (whi a == whi b) = false := by simp; omega
          have e3 : (x == 0) = false := by simp; omega
          clear h h'
          go_wp2_with (go_at_call 28; refine (CS.out _).mono ?_; rintro e w5 ⟨rfl, hb5⟩; obtain ⟨hk, hf⟩ := bsome hb5)
          go_meet
          exact ⟨by first | (simp; omega) | rfl, HL.trans (hb5.mono HL.size)⟩
        · have e1 : (whi a == whi b) = true := by simp; omega
          have e2 : (wlo a == wlo b) = false := by simp; omega
          have e3 : (x == 0) = false := by simp; omega
          clear h h' h''
          go_wp2_with (go_at_call 28; refine (CS.out _).mono ?_; rintro e w5 ⟨rfl, hb5⟩; obtain ⟨hk, hf⟩ := bsome hb5)
          go_meet
          exact ⟨by first | (simp; omega) | rfl, HL.trans (hb5.mono HL.size)⟩
      · refine D3.out _ (fun h => ?_) (fun h h' => ?_) (fun h h' h'' => ?_)
        · obtain ⟨h1, h2, hx⟩ := h
          subst hx
          have e1 : (whi a == whi b) = true := by simp; omega
          have e2 : (wlo a == wlo b) = true := by simp; omega
          clear h1 h2
          go_wp2_with (go_at_call 28; refine (CS.out _).mono ?_; rintro e w5 ⟨rfl, hb5⟩; obtain ⟨hk, hf⟩ := bsome hb5)
          go_meet
          exact ⟨by first | (simp; omega) | rfl, HL.trans (hb5.mono HL.size)⟩
        · have e1 : (whi a == whi b) = false := by simp; omega
          have e3 : (x == 0) = false := by simp; omega
          clear h h'
          go_wp2_with (go_at_call 28; refine (CS.out _).mono ?_; rintro e w5 ⟨rfl, hb5⟩; obtain ⟨hk, hf⟩ := bsome hb5)
          go_meet
          exact ⟨by first | (simp; omega) | rfl, HL.trans (hb5.mono HL.size)⟩
        · have e1 : (whi a == whi b) = true := by simp; omega
          have e2 : (wlo a == wlo b) = false := by simp; omega
          have e3 : (x == 0) = false := by simp; omega
          clear h h' h''
          go_wp2_with (go_at_call 28; refine (CS.out _).mono ?_; rintro e w5 ⟨rfl, hb5⟩; obtain ⟨hk, hf⟩ := bsome hb5)
          go_meet
          exact ⟨by first | (simp; omega) | rfl, HL.trans (hb5.mono HL.size)⟩
    · rcases (show whi a ≠ whi b ∨ whi a = whi b ∧ wlo a ≠ wlo b by rcases HEQ.out with ⟨h, h', h''⟩ | ⟨h, h'⟩ <;> omega) with h | ⟨h, h'⟩
      · have e1 : (whi a == whi b) = false := by simp; omega
        have e3 : (x == 0) = false := by simp; omega
        clear h
        go_wp2_with (go_at_call 28; refine (CS.out _).mono ?_; rintro e w5 ⟨rfl, hb5⟩; obtain ⟨hk, hf⟩ := bsome hb5)
        go_meet
        exact ⟨by first | (simp; omega) | rfl, HL.trans (hb5.mono HL.size)⟩
      · have e1 : (whi a == whi b) = true := by simp; omega
        have e2 : (wlo a == wlo b) = false := by simp; omega
        have e3 : (x == 0) = false := by simp; omega
        clear h h'
        go_wp2_with (go_at_call 28; refine (CS.out _).mono ?_; rintro e w5 ⟨rfl, hb5⟩; obtain ⟨hk, hf⟩ := bsome hb5)
        go_meet
        exact ⟨by first | (simp; omega) | rfl, HL.trans (hb5.mono HL.size)⟩
  case rest =>
    obtain ⟨rfl, HL2⟩ := hcut
    clear HL
    go_upto_region 6 with (first
      | (go_at_call_of 20 (Value.int IntKind.i64 n); refine (on.out _).mono ?_; rintro e w6 ⟨rfl, hb6⟩)
      | (go_at_call_of 20 (Value.int IntKind.i64 m); refine (om.out _).mono ?_; rintro e w7 ⟨rfl, hb7⟩)
      | (go_at_call 28; refine (CV.out _).mono ?_; rintro e w8 ⟨rfl, hb8⟩))
    have HL3 : Below W.heap.size W w8 := ((HL2.trans (hb6.mono HL2.size)).trans (hb7.mono (HL2.trans (hb6.mono HL2.size)).size)).trans (hb8.mono ((HL2.trans (hb6.mono HL2.size)).trans (hb7.mono (HL2.trans (hb6.mono HL2.size)).size)).size)
    clear hb6 hb7 hb8 HL2
    go_cut [78] (fun t wx => t = .bool false ∧ wx = w8)
    case first =>
      rcases Int.lt_trichotomy n m with h | h | h
      · have h1 : v < 0 := HV1.out.2 h
        have h2 : ¬ 0 < v := by omega
        have h3 : ¬ m < n := by omega
        go_wp2_with fail
        go_meet
        exact ⟨rfl, rfl⟩
      · have h1 : ¬ v < 0 := fun k => by have := HV1.out.1 k; omega
        have h2 : ¬ 0 < v := fun k => by have := HV2.out.1 k; omega
        have h3 : ¬ n < m := by omega
        have h4 : ¬ m < n := by omega
        clear h
        go_wp2_with fail
        go_meet
        exact ⟨rfl, rfl⟩
      · have h1 : ¬ v < 0 := fun k => by have := HV1.out.1 k; omega
        have h2 : 0 < v := HV2.out.2 h
        have h3 : ¬ n < m := by omega
        go_wp2_with fail
        go_meet
        exact ⟨rfl, rfl⟩
    case rest =>
      obtain ⟨rfl, rfl⟩ := hcut
      obtain ⟨k0, k1, k2, k3, k4, k5⟩ := HX'.out _ HL3
      obtain ⟨o, HO⟩ : ∃ o : Bool, Hid (o = outB (whi a) (whi b) (whi c)) := ⟨_, rfl⟩
      go_upto_region 8 with fail
      go_cut [106] (fun t wx => t = .bool o ∧ wx = wc)
      case first =>
        by_cases t0 : whi a < -2305843009213693952
        · have HP : Hid (o = true) := by rw [HO.out]; unfold Hid outB; simp; omega
          go_wp2_with fail
          go_meet
          exact ⟨by rw [HP.out], rfl⟩
        by_cases t1 : 2305843009213693952 ≤ whi a
        · have HP : Hid (o = true) := by rw [HO.out]; unfold Hid outB; simp; omega
          go_wp2_with fail
          go_meet
          exact ⟨by rw [HP.out], rfl⟩
        by_cases t2 : whi b < -2305843009213693952
        · have HP : Hid (o = true) := by rw [HO.out]; unfold Hid outB; simp; omega
          go_wp2_with fail
          go_meet
          exact ⟨by rw [HP.out], rfl⟩
        by_cases t3 : 2305843009213693952 ≤ whi b
        · have HP : Hid (o = true) := by rw [HO.out]; unfold Hid outB; simp; omega
          go_wp2_with fail
          go_meet
          exact ⟨by rw [HP.out], rfl⟩
        by_cases t4 : whi c < -2305843009213693952
        · have HP : Hid (o = true) := by rw [HO.out]; unfold Hid outB; simp; omega
          go_wp2_with fail
          go_meet
          exact ⟨by rw [HP.out], rfl⟩
        by_cases t5 : 2305843009213693952 ≤ whi c
        · have HP : Hid (o = true) := by rw [HO.out]; unfold Hid outB; simp; omega
          go_wp2_with fail
          go_meet
          exact ⟨by rw [HP.out], rfl⟩
        have HP : Hid (o = false) := by rw [HO.out]; unfold Hid outB; simp; omega
        go_wp2_with fail
        go_meet
        exact ⟨by rw [HP.out], rfl⟩
      case rest =>
        obtain ⟨rfl, hw⟩ := hcut
        subst hw
        rcases o with _ | _
        rotate_left
        · go_wp2_with fail
          go_ret
          exact ⟨rfl, HB.trans (HL3.mono (by omega))⟩
        · have hout' : outB (whi a) (whi b) (whi c) = false := HO.out.symm
          have hin : -2305843009213693952 ≤ whi a ∧ whi a < 2305843009213693952 ∧ -2305843009213693952 ≤ whi b ∧ whi b < 2305843009213693952 ∧ -2305843009213693952 ≤ whi c ∧ whi c < 2305843009213693952 := by
            unfold outB at hout'; simp at hout'; omega
          obtain ⟨ct, hsg⟩ := CT.out hin
          have CT2 := Lib.hid ct
          clear ct hin hout'
          have hfd : ∀ w, (Instr.field 24 (.agg #[.int .i64 (whi (a - b)), .int .u64 (wlo (a - b))]) 0).run Try.prog w = .ok (.int .i64 (whi (a - b))) w := fun _ => by kernel_rfl
          go_wp2_with fail
          go_region_held3 (fun w' => Below W.heap.size W w' ∧ w'.cell? ⟨w.heap.size, 0, none⟩ = some (.int .i64 (whi a)) ∧ w'.cell? ⟨w.heap.size, 1, none⟩ = some (.int .u64 (wlo a)) ∧ w'.cell? ⟨w.heap.size + 1, 0, none⟩ = some (.int .i64 (whi b)) ∧ w'.cell? ⟨w.heap.size + 1, 1, none⟩ = some (.int .u64 (wlo b)) ∧ w'.cell? ⟨w.heap.size + 1 + 1, 0, none⟩ = some (.int .i64 (whi c)) ∧ w'.cell? ⟨w.heap.size + 1 + 1, 1, none⟩ = some (.int .u64 (wlo c)))
            (first | exact HS.out _ (Below.drew HL3) | exact HS.out _ (keepB (Nat.le_refl _) (And.left (by assumption)) hb))
            (first
             | (go_at_call_of 21 (#[Value.agg #[Value.int IntKind.i64 (whi a), Value.int IntKind.u64 (wlo a)], Value.agg #[Value.int IntKind.i64 (whi c), Value.int IntKind.u64 (wlo c)]] : Array Value); refine (aac.out _).mono ?_; rintro e w' ⟨rfl, hb⟩)
             | (go_at_call_of 21 (#[Value.agg #[Value.int IntKind.i64 (whi b), Value.int IntKind.u64 (wlo b)], Value.agg #[Value.int IntKind.i64 (whi c), Value.int IntKind.u64 (wlo c)]] : Array Value); refine (abc.out _).mono ?_; rintro e w' ⟨rfl, hb⟩)
             | (go_at_call 28; refine (CT2.out _).mono ?_; rintro e w' ⟨rfl, hb⟩)
             | (go_at_call_of 23 (#[Value.agg #[Value.int IntKind.i64 (whi a), Value.int IntKind.u64 (wlo a)], Value.agg #[Value.int IntKind.i64 (whi b), Value.int IntKind.u64 (wlo b)]] : Array Value); refine (sab.out _).mono ?_; rintro e w' ⟨rfl, hb⟩))
          have HL4 : Below W.heap.size W w' := And.left (by assumption)
          go_wp2_with fail
          go_ret
          exact ⟨rfl, HB.trans (HL4.mono (by omega))⟩

theorem order_walk (a b c n m : Int) (n1 : -9223372036854775808 ≤ n) (n2 : n ≤ 9223372036854775807) (m1 : -9223372036854775808 ≤ m) (m2 : m ≤ 9223372036854775807) (w : World) :
    Calls Try.prog 9 #[.agg #[.int .i64 (whi a), .int .u64 (wlo a)], .agg #[.int .i64 (whi b), .int .u64 (wlo b)], .agg #[.int .i64 (whi c), .int .u64 (wlo c)], .int .i64 n, .int .i64 m] w fun e w' => e = .returned (.bool true) ∧ Below w.heap.size w w' := by
  have hz := norm_eq a b
  have l0 := wlo_lo a; have l1 := wlo_hi a; have l2 := wlo_lo b; have l3 := wlo_hi b; have l4 := wlo_lo c; have l5 := wlo_hi c
  have na := norm_def' a; have nb := norm_def' b; have nc := norm_def' c
  have xb := cmp3_bd (norm a) (norm b)
  have x0 := cmp3_zero (norm a) (norm b)
  have xn := cmp3_neg (norm a) (norm b); have xp := cmp3_pos (norm a) (norm b)
  have yn := cmp3_neg (norm b) (norm c); have yp := cmp3_pos (norm b) (norm c); have zp := cmp3_pos (norm a) (norm c)
  have vn := cmp3_neg n m; have vp := cmp3_pos n m
  refine order_core a b c n m (cmp3 (norm a) (norm b)) (cmp3 (norm b) (norm c)) (cmp3 (norm a) (norm c)) (cmp3 n m) n1 n2 m1 m2 (compare_any a b) (compare_any b c) (compare_any a c)
    (fun w => by have h := compare_any b a w; rw [cmp3_swap (norm a) (norm b)] at h; exact h)
    (fun w => by have h := compare_any n m w; rw [norm_int n n1 n2, norm_int m m1 m2] at h; exact h) ?_ xb.1 xb.2 (by omega) (by omega) vn vp w
  intro h
  have e1 : eqv (a + c) (norm a + norm c) := eqv_add (eqv_symm (norm_eqv a)) (eqv_symm (norm_eqv c))
  have e2 : eqv (b + c) (norm b + norm c) := eqv_add (eqv_symm (norm_eqv b)) (eqv_symm (norm_eqv c))
  have e3 : eqv (a - b) (norm a - norm b) := eqv_sub (eqv_symm (norm_eqv a)) (eqv_symm (norm_eqv b))
  have n1' : norm (norm a + norm c) = norm a + norm c := norm_in _ (by omega) (by omega)
  have n2' : norm (norm b + norm c) = norm b + norm c := norm_in _ (by omega) (by omega)
  have n3' : norm (norm a - norm b) = norm a - norm b := norm_in _ (by omega) (by omega)
  refine ⟨fun w => ?_, ?_⟩
  · have h := compare_any (norm a + norm c) (norm b + norm c) w
    rw [n1', n2', cmp3_shift, ← (halves_eqv e1).1, ← (halves_eqv e1).2, ← (halves_eqv e2).1, ← (halves_eqv e2).2] at h
    exact h
  · rw [(halves_eqv e3).1]
    have d := norm_def' (norm a - norm b)
    have d0 := wlo_lo (norm a - norm b); have d1 := wlo_hi (norm a - norm b)
    apply decide_eq_decide.2
    omega
end Go.Proofs.Ytjjibddpgjoeeaa
