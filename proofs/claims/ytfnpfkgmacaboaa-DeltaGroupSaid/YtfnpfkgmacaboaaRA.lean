/-
  asoflaw20.DeltaLists, walked, given what its example answers.
-/
import Derived.Test.YtfnpfkgmacaboaaQG
import Derived.Test.YtfnpfkgmacaboaaLH
namespace Go.Proofs.Ytfnpfkgmacaboaa
open Go.ChangeShapes Go.WideShapes Go.ChangeAt Go.RowKit
set_option linter.unusedVariables false
set_option linter.unusedSimpArgs false

theorem Dl.Seen.kept {w w' : World} {d : Dl} (h : d.Seen w) (hb : Below w.heap.size w w') : d.Seen w' := { h with r := { h.r with lies := h.r.lies.kept hb } }
theorem same_true (l k : List Dl) (a1 a2 : Option Addr) (c1 c2 : Nat) (hl : l.length ≤ 4611686018427387904) (w : World) (h : DlsAt w a1 l) (h2 : DlsAt w a2 k) (he : l.map Dl.kn = k.map Dl.kn) :
    Calls Try.prog 7 #[.slice a1 l.length c1, .slice a2 k.length c2] w fun e w' => e = .returned (.bool true) ∧ Below w.heap.size w w' := by
  refine (same_any l k a1 a2 c1 c2 hl w h h2).mono ?_
  rintro e w' ⟨rfl, hb⟩
  rw [decide_eq_true he]
  exact ⟨rfl, hb⟩
theorem samerows_true (l k : List Rw) (a1 a2 : Option Addr) (c1 c2 : Nat) (hl : l.length ≤ 4611686018427387904) (w : World) (h : RowsAt w a1 l) (h2 : RowsAt w a2 k) (he : l.map Rw.key = k.map Rw.key) :
    Calls Try.prog 14 #[.slice a1 l.length c1, .slice a2 k.length c2] w fun e w' => e = .returned (.bool true) ∧ Below w.heap.size w w' := by
  refine (samerows_any l k a1 a2 c1 c2 hl w h h2).mono ?_
  rintro e w' ⟨rfl, hb⟩
  rw [decide_eq_true he]
  exact ⟨rfl, hb⟩
/-- What the example answers. -/
def ExampleYes : Prop := ∀ w, Calls Try.prog 5 #[] w fun e w' => e = .returned (.bool true) ∧ Below w.heap.size w w'
def negD (l : List Dl) : List Dl := l.map Dl.neg
set_option maxHeartbeats 8000000 in
set_option maxRecDepth 100000 in
theorem lists_any (hex : ExampleYes) (l k : List Dl) (ids : List FID) (a1 a2 a3 : Option Addr) (c1 c2 c3 : Nat) (t : Int) (hl : l.length ≤ 140737488355328) (hk : k.length ≤ 140737488355328) (hids : ids.length ≤ 140737488355328)
    (h1c : a1 = none → c1 = 0) (h2c : a2 = none → c2 = 0) (hsp : ∀ a, a1 = some a → a.spot = none) (w : World) (h1 : LiesAt Dl.cells 10 w a1 l) (s1 : ∀ d ∈ l, d.Seen w) (h2 : LiesAt Dl.cells 10 w a2 k) (s2 : ∀ d ∈ k, d.Seen w) (h3 : LiesAt fidC 2 w a3 ids) :
    Calls Try.prog 3 #[.slice a1 l.length c1, .slice a2 k.length c2, .int .i64 t, .slice a3 ids.length c3] w fun e w' => e = .returned (.bool true) ∧ Below w.heap.size w w' := by
  have HX := Lib.hid hex
  have H1 := Lib.hid h1
  have H2 := Lib.hid h2
  have H3 := Lib.hid h3
  have S1 := Lib.hid s1
  have S2 := Lib.hid s2
  have HSP := Lib.hid hsp
  have HC1 := Lib.hid h1c
  have HC2 := Lib.hid h2c
  have HL := Lib.hid hl
  have HK := Lib.hid hk
  clear hex h1 h2 h3 s1 s2 hsp h1c h2c hl hk
  go_enter Try.func3, Try.ntmps3
  go_wp2_with fail
  refine (HX.out _).mono ?_
  rintro e w1 ⟨rfl, hb⟩
  have B1 : Hid (Below w.heap.size w w1) := hb
  clear hb
  go_wp2_with fail
  refine (few_any l a1 c1 HL.out w1 (H1.out.kept B1.out) (fun d hd => (S1.out d hd).kept B1.out)).mono ?_
  rintro e w2 ⟨b, rfl, hs, hb⟩
  have B2 : Hid (Below w.heap.size w w2) := keepB (Nat.le_refl _) B1.out hb
  have F1 := Lib.hid hs
  clear hb hs B1
  cases b
  · go_wp2_with fail
    go_ret
    exact ⟨rfl, B2.out⟩
  go_wp2_with fail
  refine (few_any k a2 c2 HK.out w2 (H2.out.kept B2.out) (fun d hd => (S2.out d hd).kept B2.out)).mono ?_
  rintro e w3 ⟨b, rfl, hs, hb⟩
  have B3 : Hid (Below w.heap.size w w3) := keepB (Nat.le_refl _) B2.out hb
  have F2 := Lib.hid hs
  clear hb hs B2
  cases b
  · go_wp2_with fail
    go_ret
    exact ⟨rfl, B3.out⟩
  by_cases hi : ids.length ≤ 60
  · have hl60 := (F1.out (by first | rfl | trivial)).1
    have hk60 := (F2.out (by first | rfl | trivial)).1
    have D1 : Hid (DlsAt w3 a1 l) := ⟨H1.out.kept B3.out, fun d hd => ((S1.out d hd).kept B3.out).ok ((F1.out (by first | rfl | trivial)).2 d hd)⟩
    have D2 : Hid (DlsAt w3 a2 k) := ⟨H2.out.kept B3.out, fun d hd => ((S2.out d hd).kept B3.out).ok ((F2.out (by first | rfl | trivial)).2 d hd)⟩
    have H33 := Lib.hid (H3.out.kept B3.out)
    have HLL : Hid (l.length ≤ 60 ∧ k.length ≤ 60 ∧ ids.length ≤ 60) := ⟨hl60, hk60, hi⟩
    clear hl60 hk60 F1 F2 S1 S2 H1 H2 H3 HX HL HK hids
    have hl6 : l.length ≤ 5000000 := by have := HLL.out; omega
    have hk6 : k.length ≤ 5000000 := by have := HLL.out; omega
    have L6 := Lib.hid hl6
    have K6 := Lib.hid hk6
    have I6 : Hid (ids.length ≤ 4611686018427387904) := by show _ ≤ _; have := HLL.out; omega
    clear hl6 hk6
    generalize hll : l.length = nl at *
    generalize hkk : k.length = nk at *
    generalize hii : ids.length = ni at *
    have HNL : Hid (nl = l.length) := hll.symm
    have HNK : Hid (nk = k.length) := hkk.symm
    have HNI : Hid (ni = ids.length) := hii.symm
    have CA : Hid (∀ w', Below w3.heap.size w3 w' → Calls Try.prog 8 #[.slice a1 nl c1, .slice a2 nk c2] w' fun e w2 => ∃ a c l', e = .returned (.slice a l'.length c) ∧ DlsAt w2 a l' ∧ l'.length ≤ 10000000 ∧ l'.map Dl.kn = consK (l.map Dl.kn ++ k.map Dl.kn) ∧ Below w'.heap.size w' w2) := fun w' hb => by
      rw [HNL.out, HNK.out]
      refine (fadd_any l k a1 a2 c1 c2 (by have := L6.out; have := HNL.out; omega) (by have := K6.out; have := HNK.out; omega) HC1.out HC2.out w' (D1.out.kept hb) (D2.out.kept hb)).mono ?_
      rintro e w2 ⟨v, l', rfl, ⟨a, c, rfl, -, -, hd⟩, h1, h2, h3⟩
      exact ⟨a, c, l', rfl, hd, by have := L6.out; have := K6.out; have := HNL.out; have := HNK.out; omega, h2, h3⟩
    have CRA : Hid (∀ w', Below w3.heap.size w3 w' → Calls Try.prog 9 #[.slice a1 nl c1, .slice a2 nk c2] w' fun e w2 => ∃ a c l', e = .returned (.slice a l'.length c) ∧ DlsAt w2 a l' ∧ l'.length ≤ 10000000 ∧ l'.map Dl.kn = consK (l.map Dl.kn ++ k.map Dl.kn) ∧ Below w'.heap.size w' w2) := fun w' hb => by
      rw [HNL.out, HNK.out]
      refine (radd_any l k a1 a2 c1 c2 (by have := L6.out; have := HNL.out; omega) (by have := K6.out; have := HNK.out; omega) HC1.out HC2.out w' (D1.out.kept hb) (D2.out.kept hb)).mono ?_
      rintro e w2 ⟨v, l', rfl, hd, h1, h2, h3⟩
      obtain ⟨a, c, rfl, -, -, hd⟩ := hd.lies
      exact ⟨a, c, l', rfl, hd, by have := L6.out; have := K6.out; have := HNL.out; have := HNK.out; omega, h2, h3⟩
    have CN : Hid (∀ w', Below w3.heap.size w3 w' → Calls Try.prog 10 #[.slice a1 nl c1] w' fun e w2 => ∃ a c l', e = .returned (.slice a l'.length c) ∧ DlsAt w2 a l' ∧ l'.length ≤ 10000000 ∧ l'.map Dl.kn = (negD l).map Dl.kn ∧ Below w'.heap.size w' w2) := fun w' hb => by
      rw [HNL.out]
      refine (fneg_any l a1 c1 (by have := L6.out; have := HNL.out; omega) HSP.out w' (D1.out.kept hb)).mono ?_
      rintro e w2 ⟨v, rfl, hd, h3⟩
      obtain ⟨a, c, rfl, -, -, hd⟩ := hd.lies
      exact ⟨a, c, _, rfl, hd, by rw [List.length_map]; have := L6.out; have := HNL.out; omega, rfl, h3⟩
    have CRN : Hid (∀ w', Below w3.heap.size w3 w' → Calls Try.prog 11 #[.slice a1 nl c1] w' fun e w2 => ∃ a c l', e = .returned (.slice a l'.length c) ∧ DlsAt w2 a l' ∧ l'.length ≤ 10000000 ∧ l'.map Dl.kn = (negD l).map Dl.kn ∧ Below w'.heap.size w' w2) := fun w' hb => by
      rw [HNL.out]
      refine (rneg_any l a1 c1 (by have := L6.out; have := HNL.out; omega) w' (D1.out.kept hb)).mono ?_
      rintro e w2 ⟨v, rfl, hd, h3⟩
      obtain ⟨a, c, rfl, -, -, hd⟩ := hd.lies
      exact ⟨a, c, _, rfl, hd, by rw [List.length_map]; have := L6.out; have := HNL.out; omega, rfl, h3⟩
    have CC : Hid (∀ w', Below w3.heap.size w3 w' → Calls Try.prog 12 #[.slice a1 nl c1] w' fun e w2 => ∃ a c l', e = .returned (.slice a l'.length c) ∧ DlsAt w2 a l' ∧ l'.length ≤ 10000000 ∧ l'.map Dl.kn = consK (l.map Dl.kn) ∧ Below w'.heap.size w' w2) := fun w' hb => by
      rw [HNL.out]
      refine (fcons_any l a1 c1 (by have := L6.out; have := HNL.out; omega) w' (D1.out.kept hb)).mono ?_
      rintro e w2 ⟨v, l', rfl, ⟨a, c, rfl, -, -, hd⟩, h1, h2, h3⟩
      exact ⟨a, c, l', rfl, hd, by have := L6.out; have := HNL.out; omega, h2, h3⟩
    have CRC : Hid (∀ w', Below w3.heap.size w3 w' → Calls Try.prog 13 #[.slice a1 nl c1] w' fun e w2 => ∃ a c l', e = .returned (.slice a l'.length c) ∧ DlsAt w2 a l' ∧ l'.length ≤ 10000000 ∧ l'.map Dl.kn = consK (l.map Dl.kn) ∧ Below w'.heap.size w' w2) := fun w' hb => by
      rw [HNL.out]
      refine (rcons_any l a1 c1 (by have := L6.out; have := HNL.out; omega) w' (D1.out.kept hb)).mono ?_
      rintro e w2 ⟨v, l', rfl, hd, h1, h2, h3⟩
      obtain ⟨a, c, rfl, -, -, hd⟩ := hd.lies
      exact ⟨a, c, l', rfl, hd, by have := L6.out; have := HNL.out; omega, h2, h3⟩
    have CP : Hid (∀ w', Below w3.heap.size w3 w' → Calls Try.prog 17 #[.slice a1 nl c1, .slice a3 ni c3] w' fun e w2 => ∃ a c l', e = .returned (.slice a l'.length c) ∧ DlsAt w2 a l' ∧ l'.length ≤ 10000000 ∧ l'.map Dl.kn = (purgeD l ids).map Dl.kn ∧ Below w'.heap.size w' w2) := fun w' hb => by
      rw [HNL.out, HNI.out]
      refine (fpurge_any l a1 c1 (by have := L6.out; have := HNL.out; omega) ids a3 c3 (by have := I6.out; have := HNI.out; omega) w' (D1.out.kept hb) (H33.out.kept hb)).mono ?_
      rintro e w2 ⟨v, rfl, hd, h3⟩
      obtain ⟨a, c, rfl, -, -, hd⟩ := hd.lies
      exact ⟨a, c, _, rfl, hd, Nat.le_trans (List.length_filter_le _ _) (by have := L6.out; have := HNL.out; omega), rfl, h3⟩
    have CRP : Hid (∀ w', Below w3.heap.size w3 w' → Calls Try.prog 18 #[.slice a1 nl c1, .slice a3 ni c3] w' fun e w2 => ∃ a c l', e = .returned (.slice a l'.length c) ∧ DlsAt w2 a l' ∧ l'.length ≤ 10000000 ∧ l'.map Dl.kn = (purgeD l ids).map Dl.kn ∧ Below w'.heap.size w' w2) := fun w' hb => by
      rw [HNL.out, HNI.out]
      refine (rpurge_any l a1 c1 (by have := L6.out; have := HNL.out; omega) ids a3 c3 (by have := I6.out; have := HNI.out; omega) w' (D1.out.kept hb) (H33.out.kept hb)).mono ?_
      rintro e w2 ⟨v, rfl, hd, h3⟩
      obtain ⟨a, c, rfl, -, -, hd⟩ := hd.lies
      exact ⟨a, c, _, rfl, hd, Nat.le_trans (List.length_filter_le _ _) (by have := L6.out; have := HNL.out; omega), rfl, h3⟩
    have CT : Hid (∀ w', Below w3.heap.size w3 w' → Calls Try.prog 15 #[.slice a1 nl c1, .int .i64 t] w' fun e w2 => ∃ a c l', e = .returned (.slice a l'.length c) ∧ RowsAt w2 a l' ∧ l'.length ≤ 10000000 ∧ IsAt (l.map Dl.kn) t (l.map Dl.kn) (l'.map Rw.key) ∧ Below w'.heap.size w' w2) := fun w' hb => by
      rw [HNL.out]
      refine (fat_any l a1 c1 (by have := L6.out; have := HNL.out; omega) t w' (D1.out.kept hb)).mono ?_
      rintro e w2 ⟨v, l', rfl, hd, h1, h2, h3⟩
      obtain ⟨a, c, rfl, -, -, hd⟩ := hd.lies
      exact ⟨a, c, l', rfl, hd, by have := L6.out; have := HNL.out; omega, h2, h3⟩
    have CRT : Hid (∀ w', Below w3.heap.size w3 w' → Calls Try.prog 16 #[.slice a1 nl c1, .int .i64 t] w' fun e w2 => ∃ a c l', e = .returned (.slice a l'.length c) ∧ RowsAt w2 a l' ∧ l'.length ≤ 10000000 ∧ IsAt (l.map Dl.kn) t (l.map Dl.kn) (l'.map Rw.key) ∧ Below w'.heap.size w' w2) := fun w' hb => by
      rw [HNL.out]
      refine (rat_any l a1 c1 (by have := L6.out; have := HNL.out; omega) t w' (D1.out.kept hb)).mono ?_
      rintro e w2 ⟨v, l', rfl, hd, h1, h2, h3⟩
      obtain ⟨a, c, rfl, -, -, hd⟩ := hd.lies
      exact ⟨a, c, l', rfl, hd, by have := L6.out; have := HNL.out; omega, h2, h3⟩
    clear hll hkk hii HLL D1 D2 H33 HSP HC1 HC2 L6 K6 I6 HNL HNK HNI
    have W3 : Hid (Below w3.heap.size w3 w3) := Below.refl _ _
    go_wp2_with fail
    refine (CA.out _ W3.out).mono ?_
    rintro e p1 ⟨ap1, cp1, lp1, rfl, hd, hl, hm, hb⟩
    have P1 : Hid (Below w3.heap.size w3 p1) := keepB (Nat.le_refl _) W3.out hb
    have PD1 := Lib.hid hd
    have PM1 := Lib.hid hm
    have PL1 := Lib.hid hl
    clear hd hm hb hl
    go_wp2_with fail
    refine (CRA.out _ P1.out).mono ?_
    rintro e q1 ⟨aq1, cq1, lq1, rfl, hd, hl, hm, hb⟩
    have Q1 : Hid (Below w3.heap.size w3 q1) := keepB (Nat.le_refl _) P1.out hb
    have HS := Lib.hid (same_true lp1 lq1 ap1 aq1 cp1 cq1 (by have := PL1.out; omega) q1 (PD1.out.kept hb) hd (PM1.out.trans hm.symm))
    clear hd hm hb hl
    go_wp2_with fail
    refine HS.out.mono ?_
    rintro e r1 ⟨rfl, hb⟩
    have R1 : Hid (Below w3.heap.size w3 r1) := keepB (Nat.le_refl _) Q1.out hb
    clear hb HS PD1 PM1 PL1 P1 Q1
    go_wp2_with fail
    refine (CN.out _ R1.out).mono ?_
    rintro e p2 ⟨ap2, cp2, lp2, rfl, hd, hl, hm, hb⟩
    have P2 : Hid (Below w3.heap.size w3 p2) := keepB (Nat.le_refl _) R1.out hb
    have PD2 := Lib.hid hd
    have PM2 := Lib.hid hm
    have PL2 := Lib.hid hl
    clear hd hm hb hl
    go_wp2_with fail
    refine (CRN.out _ P2.out).mono ?_
    rintro e q2 ⟨aq2, cq2, lq2, rfl, hd, hl, hm, hb⟩
    have Q2 : Hid (Below w3.heap.size w3 q2) := keepB (Nat.le_refl _) P2.out hb
    have HS := Lib.hid (same_true lp2 lq2 ap2 aq2 cp2 cq2 (by have := PL2.out; omega) q2 (PD2.out.kept hb) hd (PM2.out.trans hm.symm))
    clear hd hm hb hl
    go_wp2_with fail
    refine HS.out.mono ?_
    rintro e r2 ⟨rfl, hb⟩
    have R2 : Hid (Below w3.heap.size w3 r2) := keepB (Nat.le_refl _) Q2.out hb
    clear hb HS PD2 PM2 PL2 P2 Q2
    go_wp2_with fail
    refine (CC.out _ R2.out).mono ?_
    rintro e p3 ⟨ap3, cp3, lp3, rfl, hd, hl, hm, hb⟩
    have P3 : Hid (Below w3.heap.size w3 p3) := keepB (Nat.le_refl _) R2.out hb
    have PD3 := Lib.hid hd
    have PM3 := Lib.hid hm
    have PL3 := Lib.hid hl
    clear hd hm hb hl
    go_wp2_with fail
    refine (CRC.out _ P3.out).mono ?_
    rintro e q3 ⟨aq3, cq3, lq3, rfl, hd, hl, hm, hb⟩
    have Q3 : Hid (Below w3.heap.size w3 q3) := keepB (Nat.le_refl _) P3.out hb
    have HS := Lib.hid (same_true lp3 lq3 ap3 aq3 cp3 cq3 (by have := PL3.out; omega) q3 (PD3.out.kept hb) hd (PM3.out.trans hm.symm))
    clear hd hm hb hl
    go_wp2_with fail
    refine HS.out.mono ?_
    rintro e r3 ⟨rfl, hb⟩
    have R3 : Hid (Below w3.heap.size w3 r3) := keepB (Nat.le_refl _) Q3.out hb
    clear hb HS PD3 PM3 PL3 P3 Q3
    go_wp2_with fail
    refine (CT.out _ R3.out).mono ?_
    rintro e p4 ⟨ap4, cp4, lp4, rfl, hd, hl, hm, hb⟩
    have P4 : Hid (Below w3.heap.size w3 p4) := keepB (Nat.le_refl _) R3.out hb
    have PD4 := Lib.hid hd
    have PM4 := Lib.hid hm
    have PL4 := Lib.hid hl
    clear hd hm hb hl
    go_wp2_with fail
    refine (CRT.out _ P4.out).mono ?_
    rintro e q4 ⟨aq4, cq4, lq4, rfl, hd, hl, hm, hb⟩
    have Q4 : Hid (Below w3.heap.size w3 q4) := keepB (Nat.le_refl _) P4.out hb
    have HS := Lib.hid (samerows_true lp4 lq4 ap4 aq4 cp4 cq4 (by have := PL4.out; omega) q4 (PD4.out.kept hb) hd (PM4.out.unique hm))
    clear hd hm hb hl
    go_wp2_with fail
    refine HS.out.mono ?_
    rintro e r4 ⟨rfl, hb⟩
    have R4 : Hid (Below w3.heap.size w3 r4) := keepB (Nat.le_refl _) Q4.out hb
    clear hb HS PD4 PM4 PL4 P4 Q4
    go_wp2_with fail
    refine (CP.out _ R4.out).mono ?_
    rintro e p5 ⟨ap5, cp5, lp5, rfl, hd, hl, hm, hb⟩
    have P5 : Hid (Below w3.heap.size w3 p5) := keepB (Nat.le_refl _) R4.out hb
    have PD5 := Lib.hid hd
    have PM5 := Lib.hid hm
    have PL5 := Lib.hid hl
    clear hd hm hb hl
    go_wp2_with fail
    refine (CRP.out _ P5.out).mono ?_
    rintro e q5 ⟨aq5, cq5, lq5, rfl, hd, hl, hm, hb⟩
    have Q5 : Hid (Below w3.heap.size w3 q5) := keepB (Nat.le_refl _) P5.out hb
    have HS := Lib.hid (same_true lp5 lq5 ap5 aq5 cp5 cq5 (by have := PL5.out; omega) q5 (PD5.out.kept hb) hd (PM5.out.trans hm.symm))
    clear hd hm hb hl
    go_wp2_with fail
    refine HS.out.mono ?_
    rintro e r5 ⟨rfl, hb⟩
    have R5 : Hid (Below w3.heap.size w3 r5) := keepB (Nat.le_refl _) Q5.out hb
    clear hb HS PD5 PM5 PL5 P5 Q5
    go_wp2_with fail
    go_ret
    exact ⟨rfl, keepB (Nat.le_refl _) B3.out R5.out⟩
  · go_wp2_with fail
    go_ret
    exact ⟨rfl, B3.out⟩
end Go.Proofs.Ytfnpfkgmacaboaa
