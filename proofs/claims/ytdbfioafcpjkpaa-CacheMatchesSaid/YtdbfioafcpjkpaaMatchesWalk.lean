/-
  CacheMatches answers true.
-/
import Derived.Test.YtdbfioafcpjkpaaU
namespace Go.Proofs.Ytdbfioafcpjkpaa
open Go.ChangeShapes Go.WideShapes Go.ChangeAt Go.RowKit

theorem both_new (L : Int) : ∃ L' r, (∀ w, Calls Try.prog 16 #[.int .i64 L] w (NewIs w L' r)) ∧ ∀ w, Calls Try.prog 17 #[.int .i64 L] w (NewIs w L' r) := by
  by_cases h : L < 0 ∨ 1152921504606846976 < L
  · exact ⟨0, 1, new_bad L h, refNew_bad L h⟩
  · exact ⟨L, 0, new_good L (by omega) (by omega), refNew_good L (by omega) (by omega)⟩
theorem both_check (L : Int) (l : List Sl) (ao : Option Addr) (cap : Nat) (hc : l.length ≤ cap) (hl : l.length ≤ 4611686018427387904) (w : World) (h : SlotsAt w ao l) :
    ∃ r : Int, (Valid L l → r = 0) ∧ (¬ Valid L l → r = 1) ∧ (∀ w', Below w.heap.size w w' → Calls Try.prog 19 #[.agg #[.int .i64 L, .slice ao l.length cap]] w' fun e w2 => e = .returned (.int .i64 r) ∧ Below w'.heap.size w' w2) ∧
      ∀ w', Below w.heap.size w w' → Calls Try.prog 10 #[.agg #[.int .i64 L, .slice ao l.length cap]] w' fun e w2 => e = .returned (.int .i64 r) ∧ Below w'.heap.size w' w2 := by
  by_cases hv : Valid L l
  · refine ⟨0, fun _ => rfl, fun h => absurd hv h, fun w' hb => (check_any L l ao cap hc hl w' (h.kept hb)).mono ?_, fun w' hb => (refCheck_any L l ao cap hl w' (h.kept hb)).mono ?_⟩
    all_goals
      rintro e w2 ⟨r, rfl, hr, -, hb⟩
      exact ⟨by rw [hr hv], hb⟩
  · refine ⟨1, fun h => absurd h hv, fun _ => rfl, fun w' hb => (check_any L l ao cap hc hl w' (h.kept hb)).mono ?_, fun w' hb => (refCheck_any L l ao cap hl w' (h.kept hb)).mono ?_⟩
    all_goals
      rintro e w2 ⟨r, rfl, -, hr, hb⟩
      exact ⟨by rw [hr hv], hb⟩
theorem both_use (L : Int) (l : List Sl) (hv : Valid L l) (key : ByteArray) (n : Int) (ao : Option Addr) (cap : Nat) (hc : l.length ≤ cap) (hl : l.length * 24 ≤ 140737488351232) (w : World) (h : SlotsAt w ao l) :
    ∃ (L' : Int) (xs : List Sl) (ks : List (List UInt8)) (r : Int), xs.length ≤ l.length + 1 ∧ ks.length ≤ l.length + 1 ∧ (∀ w', Below w.heap.size w w' → Calls Try.prog 11 #[.agg #[.int .i64 L, .slice ao l.length cap], .string key, .int .i64 n] w' (UseIs w' L' xs ks r)) ∧
      ∀ w', Below w.heap.size w w' → Calls Try.prog 20 #[.agg #[.int .i64 L, .slice ao l.length cap], .string key, .int .i64 n] w' (UseIs w' L' xs ks r) := by
  by_cases h0 : n < 0
  · exact ⟨0, [], [], 1, by simp, by simp, fun w' _ => use_neg L n h0 key _ w', fun w' _ => refUse_neg L n h0 key _ w'⟩
  · by_cases h1 : L < n
    · exact ⟨0, [], [], 340, by simp, by simp, fun w' _ => use_big L n (by omega) h1 key _ w', fun w' _ => refUse_big L n (by omega) h1 key _ w'⟩
    · refine ⟨L, used L key.toList n l, gone L key.toList n l, 0, used_len _ _ _ _, ?_, fun w' hb => use_fits L n l hv (by omega) (by omega) key ao cap hc hl w' (h.kept hb), fun w' hb => refUse_fits L n l hv (by omega) (by omega) key ao cap hl w' (h.kept hb)⟩
      unfold gone
      have h1 := cnt_le (L - n) (fil key.toList l)
      have h2 := fil_len key.toList l
      simp; omega

set_option maxHeartbeats 4000000 in
set_option maxRecDepth 100000 in
theorem matches_any (L : Int) (l : List Sl) (lim : Int) (key : ByteArray) (n : Int) (ao : Option Addr) (cap : Nat) (hc : l.length ≤ cap) (hl : l.length * 24 ≤ 140737488351232) (w : World) (h : SlotsAt w ao l) :
    Calls Try.prog 6 #[.agg #[.int .i64 L, .slice ao l.length cap], .int .i64 lim, .string key, .int .i64 n] w fun e w' => e = .returned (.bool true) ∧ Below w.heap.size w w' := by
  have H := Lib.hid h
  have HL := Lib.hid hl
  have HC := Lib.hid hc
  have hll : l.length ≤ 5864062014800 := by omega
  obtain ⟨Ln, rn, N1, N2⟩ := both_new lim
  obtain ⟨rc, hr0, hr1, C1, C2⟩ := both_check L l ao cap hc (by omega) w h
  have HN1 := Lib.hid N1
  have HN2 := Lib.hid N2
  have HC1 := Lib.hid C1
  have HC2 := Lib.hid C2
  have HR0 := Lib.hid hr0
  have HR1 := Lib.hid hr1
  clear N1 N2 C1 C2 hr0 hr1 h hl hc
  go_enter Try.func6, Try.ntmps6
  go_wp2_with fail
  refine (example_any _).mono ?_
  rintro e w1 ⟨rfl, hb1⟩
  have B1 : Below w.heap.size w w1 := (below_here _).trans (hb1.mono (by simp))
  have T1 : Hid (Two w1 w.heap.size (.int .i64 L) (.slice ao l.length cap)) := (Two.new w _ _).kept hb1
  clear hb1
  go_wp2_with fail
  refine (HN1.out _).mono ?_
  rintro e w2 ⟨rfl, hb2⟩
  have B2 := B1.trans (hb2.mono B1.size)
  have T2 := Lib.hid (T1.out.kept hb2)
  clear hb2 T1 B1
  go_wp2_with fail
  refine (HN2.out _).mono ?_
  rintro e w3 ⟨rfl, hb3⟩
  have B3 := (B2.alloc B2.size (.cells #[.int .i64 Ln, .slice none 0 0] 24)).trans (hb3.mono (by have := B2.size; simp; omega))
  have T3 := Lib.hid ((T2.out.kept (below_here (.cells #[.int .i64 Ln, .slice none 0 0] 24))).kept hb3)
  have P3 : Hid (Two w3 w2.heap.size (.int .i64 Ln) (.slice none 0 0)) := (Two.new w2 _ _).kept hb3
  clear hb3 T2 B2
  go_upto_region 4 with fail
  refine wp_gen (fun V hV => ?_)
  have BV : Below w.heap.size w V := by rw [hV]; exact B3.alloc B3.size _
  have TV : Two V w.heap.size (.int .i64 L) (.slice ao l.length cap) := by rw [hV]; exact T3.out.kept (below_here _)
  have PV : Two V w2.heap.size (.int .i64 Ln) (.slice none 0 0) := by rw [hV]; exact P3.out.kept (below_here _)
  have QV : Two V w3.heap.size (.int .i64 Ln) (.slice none 0 0) := by rw [hV]; exact Two.new w3 _ _
  generalize w2.heap.size = p at *
  generalize w3.heap.size = q at *
  have HBV := Lib.hid BV
  have HTV := Lib.hid TV
  obtain ⟨t0, t1, -, -⟩ := TV.all
  obtain ⟨p0, p1, -, -⟩ := PV.all
  obtain ⟨q0, q1, -, -⟩ := QV.all
  clear hV BV TV PV QV B3 T3 P3
  have HS3 : Hid (∀ w', Below V.heap.size V w' → Below V.heap.size V w' ∧ w'.cell? ⟨p, 0, none⟩ = some (.int .i64 Ln) ∧ w'.cell? ⟨p, 1, none⟩ = some (.slice none 0 0) ∧ w'.cell? ⟨q, 0, none⟩ = some (.int .i64 Ln) ∧ w'.cell? ⟨q, 1, none⟩ = some (.slice none 0 0) ∧ w'.cell? ⟨w.heap.size, 0, none⟩ = some (.int .i64 L) ∧ w'.cell? ⟨w.heap.size, 1, none⟩ = some (.slice ao l.length cap)) :=
    fun w' h => ⟨h, (h.cell (cells_lt p0)).trans p0, (h.cell (cells_lt p1)).trans p1, (h.cell (cells_lt q0)).trans q0, (h.cell (cells_lt q1)).trans q1, (h.cell (cells_lt t0)).trans t0, (h.cell (cells_lt t1)).trans t1⟩
  have HD1 : Hid (∀ w', Calls Try.prog 18 #[.agg #[.int .i64 Ln, .slice none 0 0], .agg #[.int .i64 Ln, .slice none 0 0]] w' fun e w2 => e = .returned (.bool true) ∧ Below w'.heap.size w' w2) := fun w' => same_any Ln [] none none 0 0 (by simp) w' (Or.inl rfl) (Or.inl rfl)
  have HD2 : Hid (∀ w', Below V.heap.size V w' → Calls Try.prog 19 #[.agg #[.int .i64 L, .slice ao l.length cap]] w' fun e w2 => e = .returned (.int .i64 rc) ∧ Below w'.heap.size w' w2) := fun w' hb => HC1.out w' (HBV.out.trans (hb.mono HBV.out.size))
  have HD3 : Hid (∀ w', Below V.heap.size V w' → Calls Try.prog 10 #[.agg #[.int .i64 L, .slice ao l.length cap]] w' fun e w2 => e = .returned (.int .i64 rc) ∧ Below w'.heap.size w' w2) := fun w' hb => HC2.out w' (HBV.out.trans (hb.mono HBV.out.size))
  go_cut [46] (fun t wx => t = .bool false ∧ Below V.heap.size V wx)
  case first =>
    go_region_held3 (fun w' => Below V.heap.size V w' ∧ w'.cell? ⟨p, 0, none⟩ = some (.int .i64 Ln) ∧ w'.cell? ⟨p, 1, none⟩ = some (.slice none 0 0) ∧ w'.cell? ⟨q, 0, none⟩ = some (.int .i64 Ln) ∧ w'.cell? ⟨q, 1, none⟩ = some (.slice none 0 0) ∧ w'.cell? ⟨w.heap.size, 0, none⟩ = some (.int .i64 L) ∧ w'.cell? ⟨w.heap.size, 1, none⟩ = some (.slice ao l.length cap))
      (first | exact HS3.out _ ((Below.refl _ _).drew) | exact HS3.out _ (keepB (Nat.le_refl _) (And.left (by assumption)) hb))
      (first | (go_at_call 18; refine (HD1.out _).mono ?_; rintro e w' ⟨rfl, hb⟩) | (go_at_call 19; refine (HD2.out _ (And.left (by assumption))).mono ?_; rintro e w' ⟨rfl, hb⟩) | (go_at_call 10; refine (HD3.out _ (And.left (by assumption))).mono ?_; rintro e w' ⟨rfl, hb⟩))
    all_goals
      have HZ : Below V.heap.size V w' := And.left (by assumption)
      go_wp2_with fail
      go_meet
      exact ⟨by simp, HZ⟩
  case rest =>
    obtain ⟨rfl, hb4⟩ := hcut
    have B4 := HBV.out.trans (hb4.mono HBV.out.size)
    have T4 := Lib.hid (HTV.out.kept hb4)
    clear hb4 HS3 HD1 HD2 HD3 HTV HBV t0 t1 p0 p1 q0 q1
    obtain ⟨t0, t1, -, -⟩ := T4.out.all
    go_wp2_with fail
    refine (HC2.out _ B4).mono ?_
    rintro e w5 ⟨rfl, hb5⟩
    have B5 := B4.trans (hb5.mono B4.size)
    have T5 := Lib.hid (T4.out.kept hb5)
    clear hb5 T4 B4 t0 t1
    by_cases hv : Valid L l
    · obtain rfl : rc = 0 := HR0.out hv
      obtain ⟨Lu, xs, ks, ru, hxl, hkl, U1, U2⟩ := both_use L l hv key n ao cap HC.out HL.out w H.out
      have HU1 := Lib.hid U1
      have HU2 := Lib.hid U2
      have HV := Lib.hid hv
      clear U1 U2 hv
      obtain ⟨t0, t1, -, -⟩ := T5.out.all
      go_wp2_with fail
      refine (HU1.out _ B5).mono ?_
      rintro e w6 ⟨a6, c6, ko6, kc6, rfl, hc6, hkc6, hs6, hk6, hb6⟩
      have B6 := B5.trans (hb6.mono B5.size)
      have T6 := Lib.hid (T5.out.kept hb6)
      have S6 := Lib.hid hs6
      have K6 := Lib.hid hk6
      have L6 := T6.out.lt
      clear hb6 T5 B5 t0 t1 hs6 hk6
      obtain ⟨t0, t1, -, -⟩ := T6.out.all
      go_wp2_with fail
      refine (HU2.out _ (B6.alloc B6.size _)).mono ?_
      rintro e w7 ⟨a7, c7, ko7, kc7, rfl, hc7, hkc7, hs7, hk7, hb7⟩
      have B7 := (B6.alloc B6.size (.cells #[.int .i64 Lu, .slice a6 xs.length c6] 24)).trans (hb7.mono (by have := B6.size; simp; omega))
      have T7 := Lib.hid ((T6.out.kept (below_here (.cells #[.int .i64 Lu, .slice a6 xs.length c6] 24))).kept hb7)
      have S7 := Lib.hid ((S6.out.kept (below_here (.cells #[.int .i64 Lu, .slice a6 xs.length c6] 24))).kept hb7)
      have K7 := Lib.hid ((K6.out.kept (below_here (.cells #[.int .i64 Lu, .slice a6 xs.length c6] 24))).kept hb7)
      have D7 : Hid (Two w7 w6.heap.size (.int .i64 Lu) (.slice a6 xs.length c6)) := (Two.new w6 _ _).kept hb7
      have S8 := Lib.hid hs7
      have K8 := Lib.hid hk7
      have L7 := D7.out.lt
      have L8 := T7.out.lt
      clear hb7 T6 B6 t0 t1 S6 K6 hs7 hk7
      generalize w6.heap.size = g at *
      obtain ⟨d0, d1, -, -⟩ := D7.out.all
      go_wp2_with fail
      have W7 := below_here (w := w7) (.cells #[.int .i64 Lu, .slice a7 xs.length c7] 24)
      refine (same_any Lu xs a6 a7 c6 c7 (by omega) _ (S7.out.kept W7) (S8.out.kept W7)).mono ?_
      rintro e w8 ⟨rfl, hb8⟩
      have B8 := (B7.trans (W7.mono B7.size)).trans (hb8.mono (by have := B7.size; simp; omega))
      have T8 := Lib.hid ((T7.out.kept W7).kept hb8)
      have J7 := Lib.hid ((K7.out.kept W7).kept hb8)
      have J8 := Lib.hid ((K8.out.kept W7).kept hb8)
      clear hb8 W7 T7 B7 K7 K8 S7 S8 D7 d0 d1
      go_wp2_with fail
      refine (sameKeys_any ks ko6 ko7 kc6 kc7 (by omega) w8 J7.out J8.out).mono ?_
      rintro e w9 ⟨rfl, hb9⟩
      have B9 := B8.trans (hb9.mono B8.size)
      have T9 := Lib.hid (T8.out.kept hb9)
      clear hb9 T8 B8 J7 J8
      obtain ⟨t0, t1, -, -⟩ := T9.out.all
      have HB9 := Lib.hid B9
      have hw := HV.out.2.2.2.1
      have hw1 := HV.out.2.1
      have HD1 : Hid (∀ w', Below w9.heap.size w9 w' → Calls Try.prog 13 #[.agg #[.int .i64 L, .slice ao l.length cap], .string key] w' (CacheIs w' L (fil key.toList l))) :=
        fun w' hb => drop_any L l HV.out.2.2.2.2 key ao cap HC.out (by have := HL.out; omega) w' (H.out.kept (HB9.out.trans (hb.mono HB9.out.size)))
      have HD2 : Hid (∀ w', Below w9.heap.size w9 w' → Calls Try.prog 22 #[.agg #[.int .i64 L, .slice ao l.length cap], .string key] w' (CacheIs w' L (fil key.toList l))) :=
        fun w' hb => refDrop_any L l key ao cap (by have := HL.out; omega) w' (H.out.kept (HB9.out.trans (hb.mono HB9.out.size)))
      have hfl := fil_len key.toList l
      generalize fil key.toList l = fs at *
      have HD3 : Hid (∀ a b c d w', (∃ w9, SlotsAt w9 a fs ∧ Below w9.heap.size w9 w') → (∃ w9, SlotsAt w9 b fs ∧ Below w9.heap.size w9 w') → Calls Try.prog 18 #[.agg #[.int .i64 L, .slice a fs.length c], .agg #[.int .i64 L, .slice b fs.length d]] w' fun e w2 => e = .returned (.bool true) ∧ Below w'.heap.size w' w2) :=
        fun a b c d w' ⟨_, h1, h2⟩ ⟨_, h3, h4⟩ => same_any L fs a b c d (by omega) w' (h1.kept h2) (h3.kept h4)
      have HD4 : Hid (∀ w', Below w9.heap.size w9 w' → Calls Try.prog 12 #[.agg #[.int .i64 L, .slice ao l.length cap]] w' fun e w2 => e = .returned (.int .i64 (wsum l)) ∧ Below w'.heap.size w' w2) :=
        fun w' hb => used_any l L ao cap (by omega) HV.out.2.2.1 (by omega) w' (H.out.kept (HB9.out.trans (hb.mono HB9.out.size)))
      have HD5 : Hid (∀ w', Below w9.heap.size w9 w' → Calls Try.prog 23 #[.agg #[.int .i64 L, .slice ao l.length cap]] w' fun e w2 => e = .returned (.int .i64 (wsum l)) ∧ Below w'.heap.size w' w2) :=
        fun w' hb => refUsed_any l L ao cap (by omega) HV.out.2.2.1 (by omega) w' (H.out.kept (HB9.out.trans (hb.mono HB9.out.size)))
      have HD6 : Hid (∀ w', Below w9.heap.size w9 w' → Calls Try.prog 15 #[.agg #[.int .i64 L, .slice ao l.length cap], .string key] w' fun e w2 => e = .returned (.bool (decide (0 ≤ pos key.toList l 0))) ∧ Below w'.heap.size w' w2) :=
        fun w' hb => has_any L l key ao cap (by omega) w' (H.out.kept (HB9.out.trans (hb.mono HB9.out.size)))
      have HD7 : Hid (∀ w', Below w9.heap.size w9 w' → Calls Try.prog 24 #[.agg #[.int .i64 L, .slice ao l.length cap], .string key] w' fun e w2 => e = .returned (.bool (decide (0 ≤ pos key.toList l 0))) ∧ Below w'.heap.size w' w2) :=
        fun w' hb => refHas_any L l key ao cap (by omega) w' (H.out.kept (HB9.out.trans (hb.mono HB9.out.size)))
      generalize decide (0 ≤ pos key.toList l 0) = bb at *
      generalize wsum l = ws at *
      have HS3 : Hid (∀ w', Below w9.heap.size w9 w' → Below w9.heap.size w9 w' ∧ w'.cell? ⟨w.heap.size, 0, none⟩ = some (.int .i64 L) ∧ w'.cell? ⟨w.heap.size, 1, none⟩ = some (.slice ao l.length cap)) :=
        fun w' h => ⟨h, (h.cell (cells_lt t0)).trans t0, (h.cell (cells_lt t1)).trans t1⟩
      clear hw hw1 T9 B9
      go_upto_region 12 with fail
      go_region_held3 (fun w' => Below w9.heap.size w9 w' ∧ w'.cell? ⟨w.heap.size, 0, none⟩ = some (.int .i64 L) ∧ w'.cell? ⟨w.heap.size, 1, none⟩ = some (.slice ao l.length cap))
        (first | exact HS3.out _ ((Below.refl _ _).drew) | exact HS3.out _ (keepB (Nat.le_refl _) (And.left (by assumption)) hb))
        (first | (go_at_call 13; refine (HD1.out _ (And.left (by assumption))).mono ?_; rintro e w' ⟨a9, c9, rfl, -, hs9, hb⟩) | (go_at_call 22; refine (HD2.out _ (And.left (by assumption))).mono ?_; rintro e w' ⟨a10, c10, rfl, -, hs10, hb⟩) | (go_at_call 18; refine (HD3.out _ _ _ _ _ ⟨_, (by assumption : SlotsAt _ _ fs), (by first | exact Below.refl _ _ | assumption)⟩ ⟨_, (by assumption : SlotsAt _ _ fs), (by first | exact Below.refl _ _ | assumption)⟩).mono ?_; rintro e w' ⟨rfl, hb⟩) | (go_at_call 12; refine (HD4.out _ (And.left (by assumption))).mono ?_; rintro e w' ⟨rfl, hb⟩) | (go_at_call 23; refine (HD5.out _ (And.left (by assumption))).mono ?_; rintro e w' ⟨rfl, hb⟩) | (go_at_call 15; refine (HD6.out _ (And.left (by assumption))).mono ?_; rintro e w' ⟨rfl, hb⟩) | (go_at_call 24; refine (HD7.out _ (And.left (by assumption))).mono ?_; rintro e w' ⟨rfl, hb⟩))
      all_goals
        have HZ : Below w9.heap.size w9 w' := And.left (by assumption)
        go_wp2_with fail
        go_ret
        exact ⟨by simp, HB9.out.trans (HZ.mono HB9.out.size)⟩
    · obtain rfl : rc = 1 := HR1.out hv
      obtain ⟨t0, t1, -, -⟩ := T5.out.all
      go_wp2_with fail
      go_ret
      exact ⟨rfl, B5⟩
end Go.Proofs.Ytdbfioafcpjkpaa
