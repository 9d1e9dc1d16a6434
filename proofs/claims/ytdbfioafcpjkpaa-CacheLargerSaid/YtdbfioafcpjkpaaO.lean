/-
  Which caches are valid, as the specification says it; when two caches, or two lists of keys, are the same.
-/
import Derived.Test.YtdbfioafcpjkpaaN
namespace Go.Proofs.Ytdbfioafcpjkpaa
open Go.ChangeShapes Go.WideShapes Go.ChangeAt Go.RowKit

set_option maxRecDepth 100000 in
theorem refCheck_out (L : Int) (l : List Sl) (h : L < 0 ∨ 1152921504606846976 < L) (v : Value) (w : World) : Calls Try.prog 10 #[.agg #[.int .i64 L, v]] w (CheckIs w L l) := by
  have HV := Lib.hid (check_bad L l h)
  rcases h with h | h
  · have d1 : decide (L < 0) = true := by simpa using h
    go_enter Try.func10, Try.ntmps10
    go_wp2_with fail
    exact bodyPost_ret (v := .int .i64 1) (by simp [results, Try.results10, go_sem]) rfl ⟨1, rfl, fun h => absurd h HV.out, fun _ => rfl, below_here _⟩
  · have d1 : decide (L < 0) = false := by simp; omega
    have d2 : decide (1152921504606846976 < L) = true := by simpa using h
    go_enter Try.func10, Try.ntmps10
    go_wp2_with fail
    exact bodyPost_ret (v := .int .i64 1) (by simp [results, Try.results10, go_sem]) rfl ⟨1, rfl, fun h => absurd h HV.out, fun _ => rfl, below_here _⟩
/-- The first place of a slot's key, and whether an earlier slot has it. -/
theorem pos_self {l : List Sl} {i : Nat} {x : Sl} (hx : l[i]? = some x) : (pos x.1 l 0 = (i : Int)) ↔ pos x.1 (l.take i) 0 < 0 := by
  rw [pos_neg]
  rcases pos_shift x.1 l 0 with ⟨h1, h2⟩ | ⟨k, y, h1, h2, h3, h4⟩
  · have := h2 x (List.mem_of_getElem? hx)
    simp at this
  · constructor
    · intro h z hz
      obtain ⟨j, hj, rfl⟩ := List.mem_iff_getElem.1 hz
      simp at hj
      exact h4 j _ (by omega) (by rw [List.getElem?_eq_getElem (by omega)]; simp)
    · intro h
      rcases Nat.lt_trichotomy k i with hk | hk | hk
      · have := h y (List.mem_of_getElem? (i := k) (by rw [List.getElem?_take_of_lt hk]; exact h2))
        rw [h3] at this; cases this
      · rw [h1, hk]; simp
      · have := h4 i x hk hx
        simp at this

set_option maxHeartbeats 1000000 in
set_option maxRecDepth 100000 in
theorem refCheck_in (L : Int) (l : List Sl) (h0 : 0 ≤ L) (h1 : L ≤ 1152921504606846976) (ao : Option Addr) (cap : Nat) (hl : l.length ≤ 4611686018427387904) (w : World) (h : SlotsAt w ao l) :
    Calls Try.prog 10 #[.agg #[.int .i64 L, .slice ao l.length cap]] w (CheckIs w L l) := by
  have H := Lib.hid h
  clear h
  have d1 : decide (L < 0) = false := by simp; omega
  have d2 : decide (1152921504606846976 < L) = false := by simp; omega
  go_enter Try.func10, Try.ntmps10
  go_wp2_with fail
  refine wp_gen (fun W hW => ?_)
  have HW : Hid (Below w.heap.size w W ∧ Two W w.heap.size (.int .i64 L) (.slice ao l.length cap)) := by rw [hW]; exact ⟨below_here _, Two.new _ _ _⟩
  clear hW
  go_loopw [3, 4] (fun u v wr => ∃ i : Nat, v = .int .i64 i ∧ i ≤ l.length ∧ u = .int .i64 (L - wsum (l.take i)) ∧ (∀ j y, j < i → l[j]? = some y → OkAt L l j y) ∧ 0 ≤ wsum (l.take i) ∧ wsum (l.take i) ≤ L ∧ Below W.heap.size W wr) (fun _ v _ => l.length - (intOf v).toNat)
  case atStart => exact ⟨0, rfl, Nat.zero_le _, by simp [wsum], fun j y hj => by omega, by simp [wsum], by simp [wsum]; omega, Below.refl _ _⟩
  case round =>
    obtain ⟨i, rfl, hi, rfl, hok, hs0, hs1, hB⟩ := hrel
    have HOK := Lib.hid hok
    clear hok
    obtain ⟨b0, b1, -, -⟩ := (HW.out.2.kept hB).all
    have HBw := HW.out.1.trans (hB.mono HW.out.1.size)
    by_cases hlt : i < l.length
    · obtain ⟨x, hx⟩ : ∃ x, l[i]? = some x := ⟨l[i], List.getElem?_eq_getElem hlt⟩
      obtain ⟨b, off, rfl, hrow⟩ := (H.out.kept HBw).some (by omega)
      obtain ⟨s, hs, hc, hc2⟩ := hrow i x hx
      have HX := Lib.hid hx
      have HS := Lib.hid hs
      have HBW := Lib.hid HBw
      have HN := Lib.hid (wsum_take l i x hx)
      have hi0 : (0 : Int) ≤ (i : Int) := by omega
      have hil : (i : Int) < (l.length : Int) := by omega
      clear hx hs hrow HBw
      by_cases hneg : x.2 < 0
      · have hd : decide (x.2 < 0) = true := by simpa using hneg
        have HV : Hid (¬ Valid L l) := fun hv => by have := (valid_ok hv i x HX.out).1; omega
        go_wp2_with fail
        go_quiet (fail)
        go_wp2_with fail
        refine bodyPost_ret (v := .int .i64 1) (by simp [results, Try.results10, go_sem]) rfl ⟨1, rfl, fun h => absurd h HV.out, fun _ => rfl, below_drewN HBW.out _⟩
      · have hd : decide (x.2 < 0) = false := by simpa using hneg
        by_cases hbig : L - wsum (l.take i) < x.2
        · have hd2 : decide (L - wsum (l.take i) < x.2) = true := by simpa using hbig
          have HV : Hid (¬ Valid L l) := fun hv => by have := (valid_ok hv i x HX.out).2.1; omega
          go_wp2_with fail
          go_quiet (fail)
          go_wp2_with fail
          refine bodyPost_ret (v := .int .i64 1) (by simp [results, Try.results10, go_sem]) rfl ⟨1, rfl, fun h => absurd h HV.out, fun _ => rfl, below_drewN HBW.out _⟩
        · have hd2 : decide (L - wsum (l.take i) < x.2) = false := by simpa using hbig
          have HS3 : Hid (∀ w', Below wr.heap.size wr w' → Below wr.heap.size wr w' ∧ w'.cell? ⟨w.heap.size, 1, none⟩ = some (.slice (some ⟨b, off, none⟩) l.length cap) ∧ w'.cell? ⟨b, off + i * 2, none⟩ = some (.string s) ∧ w'.cell? ⟨b, off + i * 2 + 1, none⟩ = some (.int .i64 x.2)) :=
            fun w' h => ⟨h, (h.cell (cells_lt b1)).trans b1, (h.cell (cells_lt hc)).trans hc, (h.cell (cells_lt hc2)).trans hc2⟩
          have HI : Hid (∀ w', Below wr.heap.size wr w' → Calls Try.prog 26 #[.slice (some ⟨b, off, none⟩) l.length cap, .string s] w' fun e w2 => e = .returned (.int .i64 (pos s.toList l 0)) ∧ Below w'.heap.size w' w2) :=
            fun w' hb => find_any l s _ cap hl w' (H.out.kept (HBW.out.trans (hb.mono HBW.out.size)))
          have HPOS : Hid ((pos s.toList l 0 = (i : Int)) ↔ pos x.1 (l.take i) 0 < 0) := by rw [HS.out]; exact pos_self HX.out
          generalize pos s.toList l 0 = q at *
          generalize hsum : wsum (l.take i) = sm at *
          have HSM := Lib.hid hsum
          clear hsum
          by_cases hq : q = (i : Int)
          · have hd3 : (q == (i : Int)) = true := by simpa using hq
            have hd4 : (q != (i : Int)) = false := by simpa using hq
            have HOK2 : Hid (∀ j y, j < i + 1 → l[j]? = some y → OkAt L l j y) := by
              intro j y hj hy
              by_cases e : j = i
              · subst e
                have e2 := HX.out
                rw [hy] at e2
                injection e2 with e2
                subst e2
                exact ⟨by omega, by rw [HSM.out]; omega, HPOS.out.1 hq⟩
              · exact HOK.out j y (by omega) hy
            have HVW : Hid (∀ w', Below wr.heap.size wr w' → Below W.heap.size W w') := fun w' h => hB.trans (h.mono hB.size)
            clear hB HOK hq
            go_wp2_with fail
            go_region_held3 (fun w' => Below wr.heap.size wr w' ∧ w'.cell? ⟨w.heap.size, 1, none⟩ = some (.slice (some ⟨b, off, none⟩) l.length cap) ∧ w'.cell? ⟨b, off + i * 2, none⟩ = some (.string s) ∧ w'.cell? ⟨b, off + i * 2 + 1, none⟩ = some (.int .i64 x.2))
              (first | exact HS3.out _ ((Below.refl _ _).drew) | exact HS3.out _ (keepB (Nat.le_refl _) (And.left (by assumption)) hb))
              (first | (go_at_call 26; refine (HI.out _ (And.left (by assumption))).mono ?_; rintro e w' ⟨rfl, hb⟩))
            have HZ : Below wr.heap.size wr w' := And.left (by assumption)
            obtain ⟨-, z0, z1, z2⟩ := HS3.out _ HZ
            go_wp2_with fail
            go_roundw
            case rel => exact ⟨i + 1, by go_num, by omega, by rw [HN.out]; go_num, HOK2.out, by rw [HN.out]; omega, by rw [HN.out]; omega, HVW.out _ HZ⟩
            case measure => simp [intOf]; omega
          · have hd3 : (q == (i : Int)) = false := by simpa using hq
            have hd4 : (q != (i : Int)) = true := by simpa using hq
            have HV : Hid (¬ Valid L l) := fun hv => hq (HPOS.out.2 (valid_ok hv i x HX.out).2.2)
            go_wp2_with fail
            go_region_held3 (fun w' => Below wr.heap.size wr w' ∧ w'.cell? ⟨w.heap.size, 1, none⟩ = some (.slice (some ⟨b, off, none⟩) l.length cap) ∧ w'.cell? ⟨b, off + i * 2, none⟩ = some (.string s) ∧ w'.cell? ⟨b, off + i * 2 + 1, none⟩ = some (.int .i64 x.2))
              (first | exact HS3.out _ ((Below.refl _ _).drew) | exact HS3.out _ (keepB (Nat.le_refl _) (And.left (by assumption)) hb))
              (first | (go_at_call 26; refine (HI.out _ (And.left (by assumption))).mono ?_; rintro e w' ⟨rfl, hb⟩))
            have HZ : Below wr.heap.size wr w' := And.left (by assumption)
            go_wp2_with fail
            refine bodyPost_ret (v := .int .i64 1) (by simp [results, Try.results10, go_sem]) rfl ⟨1, rfl, fun h => absurd h HV.out, fun _ => rfl, HBW.out.trans (HZ.mono HBW.out.size)⟩
    · have hi2 : i = l.length := by omega
      subst hi2
      have HV : Hid (Valid L l) := valid_of h0 h1 (fun j y hy => HOK.out j y (List.getElem?_eq_some_iff.1 hy).1 hy)
      clear HOK
      go_wp2_with fail
      exact bodyPost_ret (v := .int .i64 0) (by simp [results, Try.results10, go_sem]) rfl ⟨0, rfl, fun _ => rfl, fun h => absurd HV.out h, HBw⟩
theorem refCheck_any (L : Int) (l : List Sl) (ao : Option Addr) (cap : Nat) (hl : l.length ≤ 4611686018427387904) (w : World) (h : SlotsAt w ao l) :
    Calls Try.prog 10 #[.agg #[.int .i64 L, .slice ao l.length cap]] w (CheckIs w L l) := by
  by_cases h0 : L < 0 ∨ 1152921504606846976 < L
  · exact refCheck_out L l h0 _ w
  · exact refCheck_in L l (by omega) (by omega) ao cap hl w h
end Go.Proofs.Ytdbfioafcpjkpaa
