/-
  CacheRecent answers true.
-/
import Derived.Test.YtdbfioafcpjkpaaRecentPlain
namespace Go.Proofs.Ytdbfioafcpjkpaa
open Go.ChangeShapes Go.WideShapes Go.ChangeAt Go.RowKit

set_option maxHeartbeats 1000000 in
set_option maxRecDepth 100000 in
theorem recent_bad (L : Int) (hL : L < 0 ∨ 1152921504606846976 < L) (v : Value) (w : World) :
    Calls Try.prog 4 #[.int .i64 L, v] w fun e w' => e = .returned (.bool true) ∧ Below w.heap.size w w' := by
  have HA := Lib.hid (after_bad L hL v)
  have HD : Hid (decide (L < 0) = true ∨ (decide (L < 0) = false ∧ decide (1152921504606846976 < L) = true)) := by show _ ∨ _; simp; omega
  rcases HD.out with hd | ⟨hd, hd2⟩
  all_goals
    go_enter Try.func4, Try.ntmps4
    go_wp2_with fail
    refine (example_any _).mono ?_
    rintro e w1 ⟨rfl, hb1⟩
    go_wp2_with fail
    refine (HA.out _).mono ?_
    rintro e w2 ⟨rfl, hb2⟩
    have B2 := hb1.trans (hb2.mono hb1.size)
    clear hb1 hb2
    go_wp2_with fail
    go_ret
    exact ⟨rfl, B2.alloc B2.size _⟩

/-- 'before' and 'first', as they stand at a round. -/
def bef (P : Nat → Nat) : Nat → Int
  | 0 => -1
  | i + 1 => (P i : Int)
def fst (n : Nat) (P : Nat → Nat) : Nat → Int
  | 0 => (n : Int)
  | _ + 1 => (P 0 : Int)
set_option maxHeartbeats 4000000 in
set_option maxRecDepth 100000 in
theorem recent_good (L : Int) (h0 : 0 ≤ L) (h1 : L ≤ 1152921504606846976) (us : List Sl) (ao : Option Addr) (cap : Nat) (hl : us.length * 24 ≤ 140737488351232) (w : World) (h : SlotsAt w ao us) :
    Calls Try.prog 4 #[.int .i64 L, .slice ao us.length cap] w fun e w' => e = .returned (.bool true) ∧ Below w.heap.size w w' := by
  have H := Lib.hid h
  have HA := Lib.hid (fun w h => after_good L h0 h1 us ao cap hl w h)
  have hV := (valid_runs h0 h1 us us.length)
  rw [List.take_length] at hV
  obtain ⟨P, hP⟩ := recent L us
  have HP := Lib.hid hP
  have hrl := hV.2
  have hul : us.length ≤ 5864062014800 := by omega
  have HH : Hid (∀ (a : Option Addr) (c : Nat) (k : ByteArray) (w' : World), 0 ≤ pos k.toList (runs L us) 0 → SlotsAt w' a (runs L us) → Calls Try.prog 15 #[.agg #[.int .i64 L, .slice a (runs L us).length c], .string k] w' fun e w2 => e = .returned (.bool true) ∧ Below w'.heap.size w' w2) := by
    intro a c k w' hk hs
    have := has_any L _ k a c (by omega) w' hs
    rw [show decide (0 ≤ pos k.toList (runs L us) 0) = true by simpa using hk] at this
    exact this
  clear h hV hP
  generalize runs L us = cs at *
  go_enter Try.func4, Try.ntmps4
  go_wp2_with fail
  refine (example_any _).mono ?_
  rintro e w1 ⟨rfl, hb1⟩
  have B1 := Lib.hid hb1
  clear hb1
  go_wp2_with fail
  refine (HA.out w1 (H.out.kept B1.out)).mono ?_
  rintro e w2 ⟨a2, c2, rfl, hc2, hs2, hb2⟩
  have B2 := Lib.hid (B1.out.trans (hb2.mono B1.out.size))
  have S2 := Lib.hid hs2
  clear hb2 hs2 B1
  go_wp2_with fail
  refine wp_gen (fun V hV => ?_)
  have HBV : Hid (Below w.heap.size w V) := by rw [hV]; exact B2.out.alloc B2.out.size _
  have HTV : Hid (Two V w2.heap.size (.int .i64 L) (.slice a2 cs.length c2)) := by rw [hV]; exact Two.new _ _ _
  have HSV : Hid (SlotsAt V a2 cs) := by rw [hV]; exact S2.out.kept (below_here _)
  generalize w2.heap.size = g at *
  clear hV B2 S2
  go_loopw [8, 9, 10] (fun b f v wr => ∃ i : Nat, v = .int .i64 i ∧ i ≤ cs.length ∧ b = .int .i64 (bef P i) ∧ f = .int .i64 (fst us.length P i) ∧ Below V.heap.size V wr) (fun _ _ v _ => cs.length - (intOf v).toNat)
  case atStart => exact ⟨0, rfl, Nat.zero_le _, rfl, rfl, Below.refl _ _⟩
  case round =>
    obtain ⟨i, rfl, hi, rfl, rfl, hB⟩ := hrel
    obtain ⟨t0, t1, -, -⟩ := (HTV.out.kept hB).all
    by_cases hlt : i < cs.length
    · obtain ⟨x, hx⟩ : ∃ x, cs[i]? = some x := ⟨cs[i], List.getElem?_eq_getElem hlt⟩
      obtain ⟨b, off, rfl, hrow⟩ := (HSV.out.kept hB).some (by omega)
      obtain ⟨s, hs, k1, k2⟩ := hrow i x hx
      obtain ⟨p1, p2, y, p3, p4⟩ := HP.out.last i x hx
      obtain ⟨wo, rfl⟩ : ∃ wo : World, wo = wr := ⟨_, rfl⟩
      have HBo := Lib.hid hB
      have HSS := Lib.hid hs
      have HLU := Lib.hid p1
      have HY := Lib.hid (And.intro p3 p4)
      clear hB hs hrow hx p1 p3 p4
      have hi0 : (0 : Int) ≤ (i : Int) := by omega
      have hil : (i : Int) < (cs.length : Int) := by omega
      go_wp2_with fail
      go_loopw [11, 12] (fun u v wr => ∃ k : Nat, v = .int .i64 k ∧ k ≤ us.length ∧ u = .int .i64 (lu x.1 L us k) ∧ Below wo.heap.size wo wr) (fun _ v _ => us.length - (intOf v).toNat)
      case atStart => exact ⟨0, rfl, Nat.zero_le _, rfl, Below.refl _ _⟩
      case round =>
        obtain ⟨k, rfl, hk, rfl, hB⟩ := hrel
        have q0 : wr.cell? ⟨g, 1, none⟩ = some (.slice (some ⟨b, off, none⟩) cs.length c2) := (hB.cell (cells_lt t1)).trans t1
        have q1 : wr.cell? ⟨b, off + i * 2, none⟩ = some (.string s) := (hB.cell (cells_lt k1)).trans k1
        have q2 : wr.cell? ⟨b, off + i * 2 + 1, none⟩ = some (.int .i64 x.2) := (hB.cell (cells_lt k2)).trans k2
        have HBr := Lib.hid hB
        by_cases hkl : k < us.length
        · obtain ⟨z, hz⟩ : ∃ z, us[k]? = some z := ⟨us[k], List.getElem?_eq_getElem hkl⟩
          obtain ⟨b1, o1, rfl, urow⟩ := (H.out.kept (HBV.out.trans ((HBo.out.trans (hB.mono HBo.out.size)).mono HBV.out.size))).some (by omega)
          obtain ⟨t, ht, m1, m2⟩ := urow k z hz
          have hk0 : (0 : Int) ≤ (k : Int) := by omega
          have hkl2 : (k : Int) < (us.length : Int) := by omega
          have hst := lu_step (key := x.1) (L := L) hz
          have hlub : Hid (lu x.1 L us (k + 1) = if (z.1 == x.1) = true ∧ 0 ≤ z.2 ∧ z.2 ≤ L then (k : Int) else lu x.1 L us k) := hst
          have hkey : (t.toList == s.toList) = (z.1 == x.1) := by rw [ht, HSS.out]
          clear hst ht urow hz hB
          generalize hlo : lu x.1 L us k = lo at *
          clear hlo
          rcases hq : (z.1 == x.1) with _ | _
          · rw [hq] at hkey
            have HN : Hid (lu x.1 L us (k + 1) = lo) := by show _ = _; rw [hlub.out, hq, if_neg (by simp)]
            clear hq hlub
            go_wp2_with fail
            go_quiet (fail)
            go_wp2_with fail
            go_roundw
            case rel => exact ⟨k + 1, by go_num, by omega, by rw [HN.out], below_drewN HBr.out _⟩
            case measure => simp [intOf]; omega
          · rw [hq] at hkey
            by_cases hz0 : 0 ≤ z.2
            · have hd0 : decide (0 ≤ z.2) = true := by simpa using hz0
              by_cases hzL : z.2 ≤ L
              · have hdL : decide (z.2 ≤ L) = true := by simpa using hzL
                have HN : Hid (lu x.1 L us (k + 1) = (k : Int)) := by show _ = _; rw [hlub.out, hq, if_pos ⟨rfl, hz0, hzL⟩]
                clear hq hlub
                go_wp2_with fail
                go_quiet (fail)
                go_wp2_with fail
                go_roundw
                case rel => exact ⟨k + 1, by go_num, by omega, by rw [HN.out], below_drewN HBr.out _⟩
                case measure => simp [intOf]; omega
              · have hdL : decide (z.2 ≤ L) = false := by simpa using hzL
                have HN : Hid (lu x.1 L us (k + 1) = lo) := by show _ = _; rw [hlub.out, if_neg (by rintro ⟨-, -, h⟩; exact hzL h)]
                clear hq hlub
                go_wp2_with fail
                go_quiet (fail)
                go_wp2_with fail
                go_roundw
                case rel => exact ⟨k + 1, by go_num, by omega, by rw [HN.out], below_drewN HBr.out _⟩
                case measure => simp [intOf]; omega
            · have hd0 : decide (0 ≤ z.2) = false := by simpa using hz0
              have HN : Hid (lu x.1 L us (k + 1) = lo) := by show _ = _; rw [hlub.out, if_neg (by rintro ⟨-, h, -⟩; exact hz0 h)]
              clear hq hlub
              go_wp2_with fail
              go_quiet (fail)
              go_wp2_with fail
              go_roundw
              case rel => exact ⟨k + 1, by go_num, by omega, by rw [HN.out], below_drewN HBr.out _⟩
              case measure => simp [intOf]; omega
        · have hk2 : k = us.length := by omega
          rw [hk2]
          rw [HLU.out]
          obtain ⟨b1, o1, rfl, urow⟩ := (H.out.kept (HBV.out.trans ((HBo.out.trans (hB.mono HBo.out.size)).mono HBV.out.size))).some (by omega)
          obtain ⟨t, -, -, m2⟩ := urow (P i) y HY.out.1
          have hbf : bef P i < (P i : Int) := by
            cases i with
            | zero => show (-1 : Int) < _; omega
            | succ i => have := HP.out.up i (by omega); show ((P i : Nat) : Int) < _; omega
          have hfs : fst us.length P (i + 1) ≤ fst us.length P i ∧ fst us.length P (i + 1) ≤ (P i : Int) ∧ (fst us.length P (i + 1) = fst us.length P i ∨ fst us.length P (i + 1) = (P i : Int)) := by
            have h2 := HP.out.low i hlt
            cases i with
            | zero => exact ⟨by show ((P 0 : Nat) : Int) ≤ (us.length : Int); omega, Int.le_refl _, Or.inr rfl⟩
            | succ i => exact ⟨Int.le_refl _, by show ((P 0 : Nat) : Int) ≤ _; omega, Or.inl rfl⟩
          have HFS := Lib.hid hfs
          have hd1 : decide ((P i : Int) ≤ bef P i) = false := by simp; omega
          have hd2 : (y.2 != x.2) = false := by rw [HY.out.2]; simp
          have hp0 : (0 : Int) ≤ (P i : Int) := by omega
          have hp1 : (P i : Int) < (us.length : Int) := by omega
          have HN : Hid (bef P (i + 1) = (P i : Int)) := rfl
          generalize bef P i = bf at *
          generalize hfi : fst us.length P i = fi at *
          clear hfi hfs urow hB hk2
          generalize P i = pp at *
          go_wp2_with fail
          go_quiet (fail)
          go_wp2_with fail
          go_roundw
          case rel =>
            refine ⟨i + 1, by go_num, by omega, by rw [HN.out], ?_, below_drewN (HBo.out.trans (HBr.out.mono HBo.out.size)) _⟩
            have e : (if (pp : Int) < fi then (pp : Int) else fi) = fst us.length P (i + 1) := by
              have := HFS.out
              split <;> omega
            rw [e]
          case measure => simp [intOf]; omega
    · have hi2 : i = cs.length := by omega
      rw [hi2]
      obtain ⟨f, hf, hfl, hfP⟩ : ∃ f : Nat, fst us.length P cs.length = (f : Int) ∧ f ≤ us.length ∧ ∀ (k : Nat) (x : Sl), f < k → us[k]? = some x → 0 ≤ x.2 → x.2 ≤ L → 0 ≤ pos x.1 cs 0 := by
        cases hcl : cs.length with
        | zero => exact ⟨us.length, rfl, Nat.le_refl _, fun k x hk hx => by have := (List.getElem?_eq_some_iff.1 hx).1; omega⟩
        | succ n =>
          obtain ⟨x, hx⟩ : ∃ x, cs[0]? = some x := ⟨cs[0], List.getElem?_eq_getElem (by omega)⟩
          have := (HP.out.last 0 x hx).2.1
          exact ⟨P 0, rfl, by omega, fun k x hk hx h0 hL => HP.out.has (by omega) k x hk hx h0 hL⟩
      rw [hf]
      have HFP := Lib.hid hfP
      have HBr := Lib.hid hB
      clear hB hf hi2 hfP hlt hi
      have ht0 : wr.cell? ⟨g, 1, none⟩ = some (.slice a2 cs.length c2) := t1
      go_wp2_with fail
      obtain ⟨wo, rfl⟩ : ∃ wo : World, wo = wr := ⟨_, rfl⟩
      go_loopw [13] (fun v wr => ∃ k : Nat, v = .int .i64 k ∧ f < k ∧ k ≤ us.length + 1 ∧ Below wo.heap.size wo wr) (fun v _ => us.length + 1 - (intOf v).toNat)
      case atStart => exact ⟨f + 1, by go_num, by omega, by omega, Below.refl _ _⟩
      case round =>
        obtain ⟨k, rfl, hfk, hk, hB⟩ := hrel
        have HB2 := Lib.hid hB
        by_cases hkl : k < us.length
        · obtain ⟨z, hz⟩ : ∃ z, us[k]? = some z := ⟨us[k], List.getElem?_eq_getElem hkl⟩
          obtain ⟨b1, o1, rfl, urow⟩ := (H.out.kept (HBV.out.trans ((HBr.out.trans (hB.mono HBr.out.size)).mono HBV.out.size))).some (by omega)
          obtain ⟨t, ht, m1, m2⟩ := urow k z hz
          have hk0 : (0 : Int) ≤ (k : Int) := by omega
          have hkl2 : (k : Int) < (us.length : Int) := by omega
          have q0 : wr.cell? ⟨g, 0, none⟩ = some (.int .i64 L) := (hB.cell (cells_lt t0)).trans t0
          have q1 : wr.cell? ⟨g, 1, none⟩ = some (.slice a2 cs.length c2) := (hB.cell (cells_lt t1)).trans t1
          by_cases hz0 : 0 ≤ z.2
          · have hd0 : decide (0 ≤ z.2) = true := by simpa using hz0
            by_cases hzL : z.2 ≤ L
            · have hdL : decide (z.2 ≤ L) = true := by simpa using hzL
              have hpos := HFP.out k z hfk hz hz0 hzL
              rw [← ht] at hpos
              have HD1 : Hid (∀ w', Below wr.heap.size wr w' → Calls Try.prog 15 #[.agg #[.int .i64 L, .slice a2 cs.length c2], .string t] w' fun e w2 => e = .returned (.bool true) ∧ Below w'.heap.size w' w2) :=
                fun w' hb => HH.out a2 c2 t w' hpos ((HSV.out.kept (HBr.out.trans (hB.mono HBr.out.size))).kept hb)
              have HS3 : Hid (∀ w', Below wr.heap.size wr w' → Below wr.heap.size wr w' ∧ w'.cell? ⟨g, 0, none⟩ = some (.int .i64 L) ∧ w'.cell? ⟨g, 1, none⟩ = some (.slice a2 cs.length c2) ∧ w'.cell? ⟨b1, o1 + k * 2, none⟩ = some (.string t) ∧ w'.cell? ⟨b1, o1 + k * 2 + 1, none⟩ = some (.int .i64 z.2)) :=
                fun w' h => ⟨h, (h.cell (cells_lt q0)).trans q0, (h.cell (cells_lt q1)).trans q1, (h.cell (cells_lt m1)).trans m1, (h.cell (cells_lt m2)).trans m2⟩
              clear hpos ht hz urow hB
              go_upto_region 23 with fail
              go_region_held3 (fun w' => Below wr.heap.size wr w' ∧ w'.cell? ⟨g, 0, none⟩ = some (.int .i64 L) ∧ w'.cell? ⟨g, 1, none⟩ = some (.slice a2 cs.length c2) ∧ w'.cell? ⟨b1, o1 + k * 2, none⟩ = some (.string t) ∧ w'.cell? ⟨b1, o1 + k * 2 + 1, none⟩ = some (.int .i64 z.2))
                (first | exact HS3.out _ ((Below.refl _ _).drew) | exact HS3.out _ (keepB (Nat.le_refl _) (And.left (by assumption)) hb))
                (first | (go_at_call 15; refine (HD1.out _ (And.left (by assumption))).mono ?_; rintro e w' ⟨rfl, hb⟩))
              have HZ : Below wr.heap.size wr w' := And.left (by assumption)
              go_wp2_with fail
              go_roundw
              case rel => exact ⟨k + 1, by go_num, by omega, by omega, HB2.out.trans (HZ.mono HB2.out.size)⟩
              case measure => simp [intOf]; omega
            · have hdL : decide (z.2 ≤ L) = false := by simpa using hzL
              clear ht hz urow hB
              go_wp2_with fail
              go_quiet (fail)
              go_wp2_with fail
              go_roundw
              case rel => exact ⟨k + 1, by go_num, by omega, by omega, below_drewN HB2.out _⟩
              case measure => simp [intOf]; omega
          · have hd0 : decide (0 ≤ z.2) = false := by simpa using hz0
            clear ht hz urow hB
            go_wp2_with fail
            go_quiet (fail)
            go_wp2_with fail
            go_roundw
            case rel => exact ⟨k + 1, by go_num, by omega, by omega, below_drewN HB2.out _⟩
            case measure => simp [intOf]; omega
        · go_wp2_with fail
          go_ret
          exact ⟨rfl, HBV.out.trans ((HBr.out.trans (HB2.out.mono HBr.out.size)).mono HBV.out.size)⟩
theorem recent_any (L : Int) (us : List Sl) (ao : Option Addr) (cap : Nat) (hl : us.length * 24 ≤ 140737488351232) (w : World) (h : SlotsAt w ao us) :
    Calls Try.prog 4 #[.int .i64 L, .slice ao us.length cap] w fun e w' => e = .returned (.bool true) ∧ Below w.heap.size w w' := by
  by_cases hL : L < 0 ∨ 1152921504606846976 < L
  · exact recent_bad L hL _ w
  · exact recent_good L (by omega) (by omega) us ao cap hl w h
end Go.Proofs.Ytdbfioafcpjkpaa
