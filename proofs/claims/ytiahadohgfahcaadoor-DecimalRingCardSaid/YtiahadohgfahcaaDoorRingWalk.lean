import Derived.Test.YtiahadohgfahcaaDoorSumsWalk
namespace Go.Proofs.YtiahadohgfahcaaDoor
open Go.ChangeShapes Go.WideShapes Go.ChangeAt Go.RowKit Go.Sort
set_option linter.unusedVariables false

set_option maxHeartbeats 4000000 in
set_option maxRecDepth 100000 in
theorem ring_out (a b : Int) (a1 : -9223372036854775808 ≤ a) (a2 : a ≤ 9223372036854775807) (b1 : -9223372036854775808 ≤ b) (b2 : b ≤ 9223372036854775807) (hc : ¬ (fit a = true ∧ fit b = true)) (w : World) (h : Tabs w) :
    Calls Tryd.prog 4 #[.int .i64 a, .int .i64 b] w fun e w' => e = .returned (.bool true) ∧ Below w.heap.size w w' := by
  have HE := Lib.hid (example_any w h)
  have eA : addR a b = (0, false) := by unfold addR; rw [if_neg (fun k => hc ⟨k.1, k.2.1⟩)]
  have eS : subR a b = (0, false) := by unfold subR; rw [if_neg (fun k => hc ⟨k.1, k.2.1⟩)]
  have eM : mulR a b = (0, false) := by unfold mulR; rw [if_neg hc]
  have eD : divR a b = (0, false) := by unfold divR; rw [if_neg (fun k => hc ⟨k.1, k.2.1⟩)]
  have A := fun w => add_any a b w a1 a2 b1 b2
  have S := fun w => sub_any a b w a1 a2 b1 b2
  have L := fun w => mulD_any a b w a1 a2 b1 b2
  have D := fun w => divD_any a b w a1 a2 b1 b2
  simp only [eA, pr] at A
  simp only [eS, pr] at S
  simp only [eM, pr] at L
  simp only [eD, pr] at D
  have HA := Lib.hid A; clear A
  have HS := Lib.hid S; clear S
  have HM := Lib.hid L; clear L
  have HD := Lib.hid D; clear D
  have key : a < -1152921504606846976 ∨ 1152921504606846976 < a ∨ b < -1152921504606846976 ∨ 1152921504606846976 < b := by
    apply Classical.byContradiction
    intro k
    exact hc ⟨fit_of (by omega) (by omega), fit_of (by omega) (by omega)⟩
  clear hc h eA eS eM eD
  by_cases k1 : a < -1152921504606846976
  · clear key
    go_enter Tryd.func4, Tryd.ntmps4
    go_wp2_with fail
    refine HE.out.mono ?_
    rintro e w1 ⟨rfl, hb1⟩
    go_wp2_with fail
    refine (HA.out _).mono ?_
    rintro e v ⟨rfl, rfl⟩
    go_wp2_with fail
    refine (HS.out _).mono ?_
    rintro e v ⟨rfl, rfl⟩
    go_wp2_with fail
    refine (HM.out _).mono ?_
    rintro e w2 ⟨rfl, hb2⟩
    go_wp2_with fail
    refine (HD.out _).mono ?_
    rintro e w3 ⟨rfl, hb3⟩
    go_wp2_with fail
    go_ret
    have z1 := hb1.size
    have z2 := hb2.size
    exact ⟨rfl, (hb1.trans (hb2.mono (by omega))).trans (hb3.mono (by omega))⟩
  · by_cases k2 : 1152921504606846976 < a
    · clear key
      go_enter Tryd.func4, Tryd.ntmps4
      go_wp2_with fail
      refine HE.out.mono ?_
      rintro e w1 ⟨rfl, hb1⟩
      go_wp2_with fail
      refine (HA.out _).mono ?_
      rintro e v ⟨rfl, rfl⟩
      go_wp2_with fail
      refine (HS.out _).mono ?_
      rintro e v ⟨rfl, rfl⟩
      go_wp2_with fail
      refine (HM.out _).mono ?_
      rintro e w2 ⟨rfl, hb2⟩
      go_wp2_with fail
      refine (HD.out _).mono ?_
      rintro e w3 ⟨rfl, hb3⟩
      go_wp2_with fail
      go_ret
      have z1 := hb1.size
      have z2 := hb2.size
      exact ⟨rfl, (hb1.trans (hb2.mono (by omega))).trans (hb3.mono (by omega))⟩
    · by_cases k3 : b < -1152921504606846976
      · clear key
        go_enter Tryd.func4, Tryd.ntmps4
        go_wp2_with fail
        refine HE.out.mono ?_
        rintro e w1 ⟨rfl, hb1⟩
        go_wp2_with fail
        refine (HA.out _).mono ?_
        rintro e v ⟨rfl, rfl⟩
        go_wp2_with fail
        refine (HS.out _).mono ?_
        rintro e v ⟨rfl, rfl⟩
        go_wp2_with fail
        refine (HM.out _).mono ?_
        rintro e w2 ⟨rfl, hb2⟩
        go_wp2_with fail
        refine (HD.out _).mono ?_
        rintro e w3 ⟨rfl, hb3⟩
        go_wp2_with fail
        go_ret
        have z1 := hb1.size
        have z2 := hb2.size
        exact ⟨rfl, (hb1.trans (hb2.mono (by omega))).trans (hb3.mono (by omega))⟩
      · have k4 : 1152921504606846976 < b := by omega
        clear key
        go_enter Tryd.func4, Tryd.ntmps4
        go_wp2_with fail
        refine HE.out.mono ?_
        rintro e w1 ⟨rfl, hb1⟩
        go_wp2_with fail
        refine (HA.out _).mono ?_
        rintro e v ⟨rfl, rfl⟩
        go_wp2_with fail
        refine (HS.out _).mono ?_
        rintro e v ⟨rfl, rfl⟩
        go_wp2_with fail
        refine (HM.out _).mono ?_
        rintro e w2 ⟨rfl, hb2⟩
        go_wp2_with fail
        refine (HD.out _).mono ?_
        rintro e w3 ⟨rfl, hb3⟩
        go_wp2_with fail
        go_ret
        have z1 := hb1.size
        have z2 := hb2.size
        exact ⟨rfl, (hb1.trans (hb2.mono (by omega))).trans (hb3.mono (by omega))⟩

set_option maxHeartbeats 8000000 in
set_option maxRecDepth 100000 in
theorem ring_yes (a b gx zx mx dx : Int) (zp mp dp : Bool) (a1 : -1152921504606846976 ≤ a) (a2 : a ≤ 1152921504606846976) (b1 : -1152921504606846976 ≤ b) (b2 : b ≤ 1152921504606846976) (m1 : -1152921504606846976 ≤ mx) (m2 : mx ≤ 1152921504606846976) (d1 : -1152921504606846976 ≤ dx) (d2 : dx ≤ 1152921504606846976)
    (A : ∀ w, Calls Tryd.prog 13 #[.int .i64 a, .int .i64 b] w fun e w' => e = .returned (.tuple #[.int .i64 gx, .bool true]) ∧ w = w')
    (A2 : ∀ w, Calls Tryd.prog 13 #[.int .i64 b, .int .i64 a] w fun e w' => e = .returned (.tuple #[.int .i64 gx, .bool true]) ∧ w = w')
    (S : ∀ w, Calls Tryd.prog 15 #[.int .i64 gx, .int .i64 b] w fun e w' => e = .returned (.tuple #[.int .i64 a, .bool true]) ∧ w = w')
    (L1 : ∀ w, Calls Tryd.prog 17 #[.int .i64 a, .int .i64 b] w fun e w' => e = .returned (.tuple #[.int .i64 mx, .bool mp]) ∧ Below w.heap.size w w')
    (L2 : ∀ w, Calls Tryd.prog 17 #[.int .i64 b, .int .i64 a] w fun e w' => e = .returned (.tuple #[.int .i64 mx, .bool mp]) ∧ Below w.heap.size w w')
    (L3 : ∀ w, Calls Tryd.prog 17 #[.int .i64 (-a), .int .i64 b] w fun e w' => e = .returned (.tuple #[.int .i64 (-mx), .bool mp]) ∧ Below w.heap.size w w')
    (D1 : ∀ w, Calls Tryd.prog 18 #[.int .i64 a, .int .i64 b] w fun e w' => e = .returned (.tuple #[.int .i64 dx, .bool dp]) ∧ Below w.heap.size w w')
    (D2 : ∀ w, Calls Tryd.prog 18 #[.int .i64 (-a), .int .i64 b] w fun e w' => e = .returned (.tuple #[.int .i64 (-dx), .bool dp]) ∧ Below w.heap.size w w')
    (D3 : ∀ w, Calls Tryd.prog 18 #[.int .i64 (-a), .int .i64 (-b)] w fun e w' => e = .returned (.tuple #[.int .i64 dx, .bool dp]) ∧ Below w.heap.size w w')
    (w : World) (h : Tabs w) :
    Calls Tryd.prog 4 #[.int .i64 a, .int .i64 b] w fun e w' => e = .returned (.bool true) ∧ Below w.heap.size w w' := by
  have HE := Lib.hid (example_any w h)
  clear h
  have HA := Lib.hid A; clear A
  have HA2 := Lib.hid A2; clear A2
  have HS := Lib.hid S; clear S
  have HL1 := Lib.hid L1; clear L1
  have HL2 := Lib.hid L2; clear L2
  have HL3 := Lib.hid L3; clear L3
  have HD1 := Lib.hid D1; clear D1
  have HD2 := Lib.hid D2; clear D2
  have HD3 := Lib.hid D3; clear D3
  go_enter Tryd.func4, Tryd.ntmps4
  go_wp2_with fail
  refine HE.out.mono ?_
  rintro e w1 ⟨rfl, hb1⟩
  go_wp2_with fail
  (with_reducible refine (HA.out _).mono ?_)
  rintro e v ⟨rfl, rfl⟩
  go_wp2_with fail
  (with_reducible refine (HA2.out _).mono ?_)
  rintro e v ⟨rfl, rfl⟩
  go_wp2_with fail
  refine (is_same _ _ _).mono ?_
  rintro e v ⟨rfl, rfl⟩
  go_wp2_with fail
  (with_reducible refine (HS.out _).mono ?_)
  rintro e v ⟨rfl, rfl⟩
  go_wp2_with fail
  refine (is_same _ _ _).mono ?_
  rintro e v ⟨rfl, rfl⟩
  go_wp2_with fail
  (with_reducible refine (HL1.out _).mono ?_)
  rintro e w2 ⟨rfl, hb2⟩
  go_wp2_with fail
  (with_reducible refine (HL2.out _).mono ?_)
  rintro e w3 ⟨rfl, hb3⟩
  go_wp2_with fail
  (with_reducible refine (HL3.out _).mono ?_)
  rintro e w4 ⟨rfl, hb4⟩
  go_wp2_with fail
  refine (is_same _ _ _).mono ?_
  rintro e v ⟨rfl, rfl⟩
  go_wp2_with fail
  refine (is_same _ _ _).mono ?_
  rintro e v ⟨rfl, rfl⟩
  go_wp2_with fail
  (with_reducible refine (HD1.out _).mono ?_)
  rintro e w5 ⟨rfl, hb5⟩
  go_wp2_with fail
  (with_reducible refine (HD2.out _).mono ?_)
  rintro e w6 ⟨rfl, hb6⟩
  go_wp2_with fail
  (with_reducible refine (HD3.out _).mono ?_)
  rintro e w7 ⟨rfl, hb7⟩
  go_wp2_with fail
  refine (is_same _ _ _).mono ?_
  rintro e v ⟨rfl, rfl⟩
  go_wp2_with fail
  refine (is_same _ _ _).mono ?_
  rintro e v ⟨rfl, rfl⟩
  go_wp2_with fail
  go_ret
  have z1 := hb1.size
  have z2 := hb2.size
  have z3 := hb3.size
  have z4 := hb4.size
  have z5 := hb5.size
  have z6 := hb6.size
  have z7 := hb7.size
  exact ⟨rfl, ((((((hb1).trans (hb2.mono (by omega))).trans (hb3.mono (by omega))).trans (hb4.mono (by omega))).trans (hb5.mono (by omega))).trans (hb6.mono (by omega))).trans (hb7.mono (by omega))⟩

set_option maxHeartbeats 8000000 in
set_option maxRecDepth 100000 in
theorem ring_no (a b gx zx mx dx : Int) (zp mp dp : Bool) (a1 : -1152921504606846976 ≤ a) (a2 : a ≤ 1152921504606846976) (b1 : -1152921504606846976 ≤ b) (b2 : b ≤ 1152921504606846976) (m1 : -1152921504606846976 ≤ mx) (m2 : mx ≤ 1152921504606846976) (d1 : -1152921504606846976 ≤ dx) (d2 : dx ≤ 1152921504606846976)
    (A : ∀ w, Calls Tryd.prog 13 #[.int .i64 a, .int .i64 b] w fun e w' => e = .returned (.tuple #[.int .i64 gx, .bool false]) ∧ w = w')
    (A2 : ∀ w, Calls Tryd.prog 13 #[.int .i64 b, .int .i64 a] w fun e w' => e = .returned (.tuple #[.int .i64 gx, .bool false]) ∧ w = w')
    (S : ∀ w, Calls Tryd.prog 15 #[.int .i64 gx, .int .i64 b] w fun e w' => e = .returned (.tuple #[.int .i64 zx, .bool zp]) ∧ w = w')
    (L1 : ∀ w, Calls Tryd.prog 17 #[.int .i64 a, .int .i64 b] w fun e w' => e = .returned (.tuple #[.int .i64 mx, .bool mp]) ∧ Below w.heap.size w w')
    (L2 : ∀ w, Calls Tryd.prog 17 #[.int .i64 b, .int .i64 a] w fun e w' => e = .returned (.tuple #[.int .i64 mx, .bool mp]) ∧ Below w.heap.size w w')
    (L3 : ∀ w, Calls Tryd.prog 17 #[.int .i64 (-a), .int .i64 b] w fun e w' => e = .returned (.tuple #[.int .i64 (-mx), .bool mp]) ∧ Below w.heap.size w w')
    (D1 : ∀ w, Calls Tryd.prog 18 #[.int .i64 a, .int .i64 b] w fun e w' => e = .returned (.tuple #[.int .i64 dx, .bool dp]) ∧ Below w.heap.size w w')
    (D2 : ∀ w, Calls Tryd.prog 18 #[.int .i64 (-a), .int .i64 b] w fun e w' => e = .returned (.tuple #[.int .i64 (-dx), .bool dp]) ∧ Below w.heap.size w w')
    (D3 : ∀ w, Calls Tryd.prog 18 #[.int .i64 (-a), .int .i64 (-b)] w fun e w' => e = .returned (.tuple #[.int .i64 dx, .bool dp]) ∧ Below w.heap.size w w')
    (w : World) (h : Tabs w) :
    Calls Tryd.prog 4 #[.int .i64 a, .int .i64 b] w fun e w' => e = .returned (.bool true) ∧ Below w.heap.size w w' := by
  have HE := Lib.hid (example_any w h)
  clear h
  have HA := Lib.hid A; clear A
  have HA2 := Lib.hid A2; clear A2
  have HS := Lib.hid S; clear S
  have HL1 := Lib.hid L1; clear L1
  have HL2 := Lib.hid L2; clear L2
  have HL3 := Lib.hid L3; clear L3
  have HD1 := Lib.hid D1; clear D1
  have HD2 := Lib.hid D2; clear D2
  have HD3 := Lib.hid D3; clear D3
  go_enter Tryd.func4, Tryd.ntmps4
  go_wp2_with fail
  refine HE.out.mono ?_
  rintro e w1 ⟨rfl, hb1⟩
  go_wp2_with fail
  (with_reducible refine (HA.out _).mono ?_)
  rintro e v ⟨rfl, rfl⟩
  go_wp2_with fail
  (with_reducible refine (HA2.out _).mono ?_)
  rintro e v ⟨rfl, rfl⟩
  go_wp2_with fail
  refine (is_same _ _ _).mono ?_
  rintro e v ⟨rfl, rfl⟩
  go_wp2_with fail
  (with_reducible refine (HS.out _).mono ?_)
  rintro e v ⟨rfl, rfl⟩
  go_wp2_with fail
  (with_reducible refine (HL1.out _).mono ?_)
  rintro e w2 ⟨rfl, hb2⟩
  go_wp2_with fail
  (with_reducible refine (HL2.out _).mono ?_)
  rintro e w3 ⟨rfl, hb3⟩
  go_wp2_with fail
  (with_reducible refine (HL3.out _).mono ?_)
  rintro e w4 ⟨rfl, hb4⟩
  go_wp2_with fail
  refine (is_same _ _ _).mono ?_
  rintro e v ⟨rfl, rfl⟩
  go_wp2_with fail
  refine (is_same _ _ _).mono ?_
  rintro e v ⟨rfl, rfl⟩
  go_wp2_with fail
  (with_reducible refine (HD1.out _).mono ?_)
  rintro e w5 ⟨rfl, hb5⟩
  go_wp2_with fail
  (with_reducible refine (HD2.out _).mono ?_)
  rintro e w6 ⟨rfl, hb6⟩
  go_wp2_with fail
  (with_reducible refine (HD3.out _).mono ?_)
  rintro e w7 ⟨rfl, hb7⟩
  go_wp2_with fail
  refine (is_same _ _ _).mono ?_
  rintro e v ⟨rfl, rfl⟩
  go_wp2_with fail
  refine (is_same _ _ _).mono ?_
  rintro e v ⟨rfl, rfl⟩
  go_wp2_with fail
  go_ret
  have z1 := hb1.size
  have z2 := hb2.size
  have z3 := hb3.size
  have z4 := hb4.size
  have z5 := hb5.size
  have z6 := hb6.size
  have z7 := hb7.size
  exact ⟨rfl, ((((((hb1).trans (hb2.mono (by omega))).trans (hb3.mono (by omega))).trans (hb4.mono (by omega))).trans (hb5.mono (by omega))).trans (hb6.mono (by omega))).trans (hb7.mono (by omega))⟩

theorem ring_walk (a b : Int) (a1 : -9223372036854775808 ≤ a) (a2 : a ≤ 9223372036854775807) (b1 : -9223372036854775808 ≤ b) (b2 : b ≤ 9223372036854775807) (w : World) (h : Tabs w) :
    Calls Tryd.prog 4 #[.int .i64 a, .int .i64 b] w fun e w' => e = .returned (.bool true) ∧ Below w.heap.size w w' := by
  by_cases hc : fit a = true ∧ fit b = true
  · obtain ⟨hA, hB⟩ := hc
    obtain ⟨x1, x2⟩ := fit_yes hA
    obtain ⟨y1, y2⟩ := fit_yes hB
    have A := fun w => add_any a b w a1 a2 b1 b2
    have A2 := fun w => add_any b a w b1 b2 a1 a2
    have L1 := fun w => mulD_any a b w a1 a2 b1 b2
    have L2 := fun w => mulD_any b a w b1 b2 a1 a2
    have L3 := fun w => mulD_any (-a) b w (by omega) (by omega) b1 b2
    have D1 := fun w => divD_any a b w a1 a2 b1 b2
    have D2 := fun w => divD_any (-a) b w (by omega) (by omega) b1 b2
    have D3 := fun w => divD_any (-a) (-b) w (by omega) (by omega) (by omega) (by omega)
    simp only [addR_comm a b] at A2
    simp only [mulR_comm a b] at L2
    simp only [mulR_neg] at L3
    simp only [divR_neg] at D2
    simp only [divR_negneg] at D3
    have mb := mulR_bounds a b
    have db := divR_bounds a b
    generalize mulR a b = m at *
    generalize divR a b = d at *
    obtain ⟨mx, mp⟩ := m
    obtain ⟨dx, dp⟩ := d
    simp only [pr] at L1 L2 L3 D1 D2 D3
    simp only at mb db
    cases hC : fit (a + b)
    · have e : addR a b = (0, false) := by unfold addR; rw [if_neg (by simp [hC])]
      have S := fun w => sub_any 0 b w (by decide) (by decide) b1 b2
      rw [e] at A A2
      generalize subR 0 b = s at *
      obtain ⟨sx, sp⟩ := s
      exact ring_no a b 0 sx mx dx sp mp dp x1 x2 y1 y2 mb.1 mb.2 db.1 db.2 A A2 S L1 L2 L3 D1 D2 D3 w h
    · have e : addR a b = (a + b, true) := by unfold addR; rw [if_pos ⟨hA, hB, hC⟩]
      have S := fun w => sub_any (a + b) b w (by omega) (by omega) b1 b2
      have e2 : subR (a + b) b = (a, true) := by
        have e3 : a + b - b = a := by omega
        unfold subR; rw [e3, if_pos ⟨hC, hB, hA⟩]
      rw [e] at A A2
      rw [e2] at S
      exact ring_yes a b (a + b) 0 mx dx false mp dp x1 x2 y1 y2 mb.1 mb.2 db.1 db.2 A A2 S L1 L2 L3 D1 D2 D3 w h
  · exact ring_out a b a1 a2 b1 b2 hc w h
end Go.Proofs.YtiahadohgfahcaaDoor
