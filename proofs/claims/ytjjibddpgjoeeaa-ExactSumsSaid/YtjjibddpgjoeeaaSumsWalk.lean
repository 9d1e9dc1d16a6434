import Derived.Test.YtjjibddpgjoeeaaRoundsWalk
import Derived.Test.YtjjibddpgjoeeaaSumsPlain
import Derived.Deep.RegionWith
import Derived.Deep.LoopGhost
import Derived.Deep.CutBlock
namespace Go.Proofs.Ytjjibddpgjoeeaa
open Go.ChangeShapes Go.WideShapes Go.ChangeAt Go.RowKit

/-- Pairs of integers in memory. -/
def PairsAt (w : World) (b off : Nat) (n : Nat) (X Y : Nat → Int) : Prop :=
  ∀ i, i < n → w.cell? ⟨b, off + i * 2, none⟩ = some (.int .i64 (X i)) ∧ w.cell? ⟨b, off + i * 2 + 1, none⟩ = some (.int .i64 (Y i))

/-- Between the rounds: the two sums in their blocks, all that was there as it was. -/
structure SumsInv (w : World) (U : Nat) (u d : Int) (wr : World) : Prop where
  below : Below w.heap.size w wr
  low : w.heap.size ≤ U
  high : U + 1 < wr.heap.size
  u0 : wr.cell? ⟨U, 0, none⟩ = some (.int .i64 (whi u))
  u1 : wr.cell? ⟨U, 1, none⟩ = some (.int .u64 (wlo u))
  d0 : wr.cell? ⟨U + 1, 0, none⟩ = some (.int .i64 (whi d))
  d1 : wr.cell? ⟨U + 1, 1, none⟩ = some (.int .u64 (wlo d))
  fu0 : wr.frozen? ⟨U, 0, none⟩ = false
  fu1 : wr.frozen? ⟨U, 1, none⟩ = false
  fd0 : wr.frozen? ⟨U + 1, 0, none⟩ = false
  fd1 : wr.frozen? ⟨U + 1, 1, none⟩ = false
theorem lt_of_cell {w : World} {b o : Nat} {v : Value} (h : w.cell? ⟨b, o, none⟩ = some v) : b < w.heap.size := by
  rcases Nat.lt_or_ge b w.heap.size with hp | hp
  · exact hp
  · have : w.heap[b]? = none := Array.getElem?_eq_none hp
    simp [World.cell?, this] at h
theorem pairs_kept {w wr : World} {b off : Nat} {n : Nat} {X Y : Nat → Int} (h : PairsAt w b off n X Y) (hb : Below w.heap.size w wr) : PairsAt wr b off n X Y := by
  intro i hi
  obtain ⟨h0, h1⟩ := h i hi
  have hs := (bsome hb).1
  exact ⟨by rw [hs _ (by rw [h0]; rfl), h0], by rw [hs _ (by rw [h1]; rfl), h1]⟩

theorem below_undrew {B : Nat} {w w' : World} (h : Below B w.drew w') : Below B w w' := ⟨h.os, h.tape, h.output, h.size, h.block⟩
theorem far_cell (U : Nat) {w : World} (g o : Nat) (x y v : Value) (h : U ≠ g) (hc : w.cell? ⟨g, o, none⟩ = some v) : ((w.setCell ⟨U, 0, none⟩ x).setCell ⟨U, 1, none⟩ y).cell? ⟨g, o, none⟩ = some v := by
  rw [World.cell?_setCell_other _ ⟨U, 1, none⟩ ⟨g, o, none⟩ _ (fun e => h (by injection e)), World.cell?_setCell_other _ ⟨U, 0, none⟩ ⟨g, o, none⟩ _ (fun e => h (by injection e))]; exact hc
theorem SumsInv.kept {w : World} {U : Nat} {u d : Int} {wr V : World} (h : SumsInv w U u d wr) (hb : Below wr.heap.size wr V) : SumsInv w U u d V := by
  have hh := h.high
  have hU : U < wr.heap.size := by omega
  exact ⟨h.below.trans (hb.mono h.below.size), h.low, Nat.lt_of_lt_of_le hh hb.size, (hb.cell hU).trans h.u0, (hb.cell hU).trans h.u1, (hb.cell hh).trans h.d0, (hb.cell hh).trans h.d1,
    (hb.frozen hU).trans h.fu0, (hb.frozen hU).trans h.fu1, (hb.frozen hh).trans h.fd0, (hb.frozen hh).trans h.fd1⟩
/-- The first block written anew. -/
theorem SumsInv.put {w : World} {U : Nat} {u d : Int} {wr : World} (h : SumsInv w U u d wr) (u' : Int) : SumsInv w U u' d ((wr.setCell ⟨U, 0, none⟩ (.int .i64 (whi u'))).setCell ⟨U, 1, none⟩ (.int .u64 (wlo u'))) := by
  have hh := h.high
  have e := twoset (w := wr) (g := U) (x := .int .i64 (whi u')) (y := .int .u64 (wlo u')) (by rw [h.u0]; rfl) (by rw [h.u1]; rfl)
  refine ⟨(h.below.setCell h.low _).setCell h.low _, h.low, by simpa [World.setCell] using hh, e.1, e.2, ?_, ?_, ?_, ?_, ?_, ?_⟩
  · rw [World.cell?_setCell_other _ ⟨U, 1, none⟩ ⟨U + 1, 0, none⟩ _ (by simp), World.cell?_setCell_other _ ⟨U, 0, none⟩ ⟨U + 1, 0, none⟩ _ (by simp)]; exact h.d0
  · rw [World.cell?_setCell_other _ ⟨U, 1, none⟩ ⟨U + 1, 1, none⟩ _ (by simp), World.cell?_setCell_other _ ⟨U, 0, none⟩ ⟨U + 1, 1, none⟩ _ (by simp)]; exact h.d1
  all_goals rw [World.frozen?_setCell, World.frozen?_setCell]
  · exact h.fu0
  · exact h.fu1
  · exact h.fd0
  · exact h.fd1
theorem SumsInv.put2 {w : World} {U : Nat} {u d : Int} {wr : World} (h : SumsInv w U u d wr) (d' : Int) : SumsInv w U u d' ((wr.setCell ⟨U + 1, 0, none⟩ (.int .i64 (whi d'))).setCell ⟨U + 1, 1, none⟩ (.int .u64 (wlo d'))) := by
  have hh := h.high
  have hl := h.low
  have e := twoset (w := wr) (g := U + 1) (x := .int .i64 (whi d')) (y := .int .u64 (wlo d')) (by rw [h.d0]; rfl) (by rw [h.d1]; rfl)
  refine ⟨(h.below.setCell (by simp; omega) _).setCell (by simp; omega) _, h.low, by simpa [World.setCell] using hh, ?_, ?_, e.1, e.2, ?_, ?_, ?_, ?_⟩
  · rw [World.cell?_setCell_other _ ⟨U + 1, 1, none⟩ ⟨U, 0, none⟩ _ (by simp), World.cell?_setCell_other _ ⟨U + 1, 0, none⟩ ⟨U, 0, none⟩ _ (by simp)]; exact h.u0
  · rw [World.cell?_setCell_other _ ⟨U + 1, 1, none⟩ ⟨U, 1, none⟩ _ (by simp), World.cell?_setCell_other _ ⟨U + 1, 0, none⟩ ⟨U, 1, none⟩ _ (by simp)]; exact h.u1
  all_goals rw [World.frozen?_setCell, World.frozen?_setCell]
  · exact h.fu0
  · exact h.fu1
  · exact h.fd0
  · exact h.fd1

theorem sums_index (k j : Nat) (by_ : Int) (hj : j < k) (hk : k ≤ 140737488355328) : (wrap64 (wrap64 ((j : Int) + by_.tmod k) + k)).tmod k = (((j + (by_.tmod k + k).toNat) % k : Nat) : Int) := by
  have h1 := Int.tmod_lt_of_pos by_ (show (0 : Int) < k by omega)
  have h2 := Int.lt_tmod_of_pos by_ (show (0 : Int) < k by omega)
  generalize by_.tmod k = t at *
  rw [IntWalk.wrap64_in ((j : Int) + t) ⟨by omega, by omega⟩, IntWalk.wrap64_in _ ⟨by omega, by omega⟩, Int.tmod_eq_emod_of_nonneg (by omega), Int.natCast_emod]
  congr 1
  omega
set_option maxRecDepth 100000 in
set_option maxHeartbeats 2000000 in
theorem sums_core (b off cap len : Nat) (by_ : Int) (X Y : Nat → Int) (hX : ∀ i, i < len → -9223372036854775808 ≤ X i ∧ X i ≤ 9223372036854775807) (hY : ∀ i, i < len → -9223372036854775808 ≤ Y i ∧ Y i ≤ 9223372036854775807)
    (hlen : len ≤ cap) (hcap : cap ≤ 140737488355328) (w : World) (hp : PairsAt w b off len X Y) :
    Calls Try.prog 12 #[.slice (some ⟨b, off, none⟩) len cap, .int .i64 by_] w fun e w' => e = .returned (.bool true) ∧ Below w.heap.size w w' := by
  have HP := Lib.hid hp; clear hp
  have HXb := Lib.hid hX; have HYb := Lib.hid hY; clear hX hY
  have o0 := Lib.hid (fun w => of_any 0 w (by decide) (by decide))
  go_enter Try.func12, Try.ntmps12
  go_wp2_with fail
  refine (example_any _).mono ?_
  rintro e w1 ⟨rfl, hb1⟩
  go_wp2_with fail
  refine (o0.out _).mono ?_
  rintro e w2 ⟨rfl, hb2⟩
  go_wp2_with fail
  refine (o0.out _).mono ?_
  rintro e w3 ⟨rfl, hb3⟩
  have hz1 := hb1.size; have hz2 := hb2.size; have hz3 := hb3.size
  have HB0 : Below w.heap.size w w3 := (hb1.trans (hb2.mono (by omega))).trans (hb3.mono (by omega))
  have hw3 : w.heap.size ≤ w3.heap.size := by omega
  obtain ⟨U, hU⟩ : ∃ U, U = w3.heap.size := ⟨_, rfl⟩
  clear hb1 hb2 hb3 hz1 hz2 hz3
  go_wp2_with fail
  refine wp_gen (fun W hW => ?_)
  rw [← hU]
  have HI : Hid (SumsInv w U 0 0 W) := by
    subst hW
    subst hU
    exact ⟨(HB0.alloc (by omega) _).alloc (by simp; omega) _, hw3, by simp, by simp [go_sem], by simp [go_sem], by simp [go_sem], by simp [go_sem], by simp [go_sem], by simp [go_sem], by simp [go_sem], by simp [go_sem]⟩
  clear hW hU HB0 hw3
  go_loopw [8] (fun i wr => ∃ k : Nat, k ≤ len ∧ i = .int .i64 k ∧ SumsInv w U (sumTo (fun j => X j * Y j) k) (sumTo (fun j => X (len - 1 - j) * Y (len - 1 - j)) k) wr) (fun i _ => len - (intOf i).toNat)
  case atStart => exact ⟨0, Nat.zero_le _, rfl, HI.out⟩
  case round =>
    obtain ⟨k, hk, rfl, hI⟩ := hrel
    have HK := Lib.hid hI
    clear hI HI
    by_cases hlt : k < len
    · obtain ⟨p0, p1⟩ := pairs_kept HP.out HK.out.below k hlt
      obtain ⟨p2, p3⟩ := pairs_kept HP.out HK.out.below (len - 1 - k) (by omega)
      have hbl := lt_of_cell p0
      have hUl := HK.out.high
      have hUl2 : U < wr.heap.size := by omega
      have bX := HXb.out k hlt
      have bY := HYb.out k hlt
      have bX2 := HXb.out (len - 1 - k) (by omega)
      have bY2 := HYb.out (len - 1 - k) (by omega)
      have m1 := Lib.hid (mul_any (X k) (Y k) bX.1 bX.2 bY.1 bY.2)
      have m2 := Lib.hid (mul_any (X (len - 1 - k)) (Y (len - 1 - k)) bX2.1 bX2.2 bY2.1 bY2.2)
      have hs1 : sumTo (fun j => X j * Y j) (k + 1) = sumTo (fun j => X j * Y j) k + X k * Y k := rfl
      have hs2 : sumTo (fun j => X (len - 1 - j) * Y (len - 1 - j)) (k + 1) = sumTo (fun j => X (len - 1 - j) * Y (len - 1 - j)) k + X (len - 1 - k) * Y (len - 1 - k) := rfl
      have HS1 := Lib.hid hs1
      have HS2 := Lib.hid hs2
      clear hs1 hs2 bX bY bX2 bY2
      generalize sumTo (fun j => X j * Y j) k = u at *
      generalize sumTo (fun j => X (len - 1 - j) * Y (len - 1 - j)) k = d at *
      generalize X k = x0 at *
      generalize Y k = y0 at *
      generalize X (len - 1 - k) = x1 at *
      generalize Y (len - 1 - k) = y1 at *
      have a1 := Lib.hid (add_any u (x0 * y0))
      have a2 := Lib.hid (fun w => by have h := add_any (x1 * y1) d w; rw [Int.add_comm (x1 * y1) d] at h; exact h)
      go_upto_block 1 with fail
      go_cut [9, 10] (fun _ _ wx => SumsInv w U (u + x0 * y0) (d + x1 * y1) wx)
      case first =>
        go_upto_region 8 with fail
        refine wp_gen (fun V hV => ?_)
        have q0 : V.cell? ⟨wr.heap.size, 0, none⟩ = some (.int .i64 x0) := by rw [hV]; simp [go_sem]
        have q1 : V.cell? ⟨wr.heap.size, 1, none⟩ = some (.int .i64 y0) := by rw [hV]; simp [go_sem]
        have q2 : V.cell? ⟨wr.heap.size + 1, 0, none⟩ = some (.int .i64 x1) := by rw [hV]; simp [go_sem]
        have q3 : V.cell? ⟨wr.heap.size + 1, 1, none⟩ = some (.int .i64 y1) := by rw [hV]; simp [go_sem]
        have HV : Below wr.heap.size wr V := by rw [hV]; exact ((Below.refl _ _).alloc (Nat.le_refl _) _).alloc (by simp) _
        clear hV p0 p1 p2 p3
        have HKV := Lib.hid (HK.out.kept HV)
        clear HK
        have hv2 := lt_of_cell q2
        go_cut [40] (fun _ wx => SumsInv w U (u + x0 * y0) d wx ∧ wx.cell? ⟨wr.heap.size + 1, 0, none⟩ = some (.int .i64 x1) ∧ wx.cell? ⟨wr.heap.size + 1, 1, none⟩ = some (.int .i64 y1))
        case first =>
          have u0 := HKV.out.u0; have u1 := HKV.out.u1; have fu0 := HKV.out.fu0; have fu1 := HKV.out.fu1
          go_region_with (first
            | (go_at_call 14; refine (m1.out _).mono ?_; rintro e w' ⟨rfl, hb⟩; have hB : Below V.heap.size V w' := below_undrew hb; obtain ⟨hk, hf⟩ := bsome hb)
            | (go_at_call 21; refine (a1.out _).mono ?_; rintro e w' ⟨rfl, hb⟩; have hB2 := keepB (Nat.le_refl _) (by assumption : Below V.heap.size V _) hb; obtain ⟨hk, hf⟩ := bsome hb))
          all_goals
            have HZ : Below V.heap.size V w' := by assumption
            go_wp2_with fail
            go_meet
            exact ⟨(HKV.out.kept HZ).put _, far_cell U _ _ _ _ _ (by omega) ((HZ.cell hv2).trans q2), far_cell U _ _ _ _ _ (by omega) ((HZ.cell hv2).trans q3)⟩
        case rest =>
          obtain ⟨hI2, y2, y3⟩ := hcut
          have HK2 := Lib.hid hI2
          clear hI2 HKV q0 q1 q2 q3 HV
          have hv3 := lt_of_cell y2
          have u0 := HK2.out.d0; have u1 := HK2.out.d1; have fu0 := HK2.out.fd0; have fu1 := HK2.out.fd1
          go_wp2_with fail
          go_region_with (first
            | (go_at_call 14; refine (m2.out _).mono ?_; rintro e w' ⟨rfl, hb⟩; have hB : Below wc.heap.size wc w' := below_undrew hb; obtain ⟨hk, hf⟩ := bsome hb)
            | (go_at_call 21; refine (a2.out _).mono ?_; rintro e w' ⟨rfl, hb⟩; have hB2 := keepB (Nat.le_refl _) (by assumption : Below wc.heap.size wc _) hb; obtain ⟨hk, hf⟩ := bsome hb))
          all_goals
            have HZ : Below wc.heap.size wc w' := by assumption
            go_wp2_with fail
            go_meet
            exact (HK2.out.kept HZ).put2 _
      case rest =>
        have HK3 := Lib.hid hcut
        clear hcut HK p0 p1 p2 p3
        go_wp2_with fail
        go_roundw
        case rel => exact ⟨k + 1, by omega, by go_num, by rw [HS1.out, HS2.out]; exact HK3.out⟩
        case measure => simp [intOf]; omega
    · have hkl : k = len := by omega
      subst hkl
      have hrev := sumTo_rev (fun j => X j * Y j) k
      have HK1 := HK.out
      rw [hrev] at HK1
      have HT := Lib.hid HK1
      clear HK HK1 hrev hk
      generalize hTT : sumTo (fun j => X j * Y j) k = T at *
      have HTT := Lib.hid hTT
      clear hTT
      have t0 := HT.out.u0; have t1 := HT.out.u1; have t2 := HT.out.d0; have t3 := HT.out.d1
      go_wp2_with fail
      clear t0 t1 t2 t3
      obtain ⟨c, hc⟩ : ∃ c : Nat, c = (by_.tmod k + k).toNat := ⟨_, rfl⟩
      have HC := Lib.hid hc
      clear hc
      go_loopw [11] (fun i wr => ∃ j : Nat, j ≤ k ∧ i = .int .i64 j ∧ SumsInv w U (T - sumTo (fun j => X ((j + c) % k) * Y ((j + c) % k)) j) T wr) (fun i _ => k - (intOf i).toNat)
      case atStart => exact ⟨0, Nat.zero_le _, rfl, by rw [sumTo, Int.sub_zero]; exact HT.out⟩
      case round =>
        obtain ⟨j, hj, rfl, hI⟩ := hrel
        have HK := Lib.hid hI
        clear hI HT
        by_cases hlt : j < k
        · have hk0 : (k == 0) = false := by simp; omega
          have hkz : ¬ (k : Int) = 0 := by omega
          obtain ⟨i, hi⟩ : ∃ i : Nat, i = (j + c) % k := ⟨_, rfl⟩
          have hik : i < k := by rw [hi]; exact Nat.mod_lt _ (by omega)
          have hidx : (wrap64 (wrap64 ((j : Int) + by_.tmod k) + k)).tmod k = (i : Int) := by rw [hi, HC.out]; exact sums_index k j by_ hlt (by omega)
          have hs : sumTo (fun j => X ((j + c) % k) * Y ((j + c) % k)) (j + 1) = sumTo (fun j => X ((j + c) % k) * Y ((j + c) % k)) j + X i * Y i := by rw [hi]; rfl
          have HSS := Lib.hid hs
          clear hs hi
          obtain ⟨p0, p1⟩ := pairs_kept HP.out HK.out.below i hik
          have bX := HXb.out i hik
          have bY := HYb.out i hik
          have m1 := Lib.hid (mul_any (Y i) (X i) bY.1 bY.2 bX.1 bX.2)
          clear bX bY
          generalize sumTo (fun j => X ((j + c) % k) * Y ((j + c) % k)) j = u at *
          generalize X i = x0 at *
          generalize Y i = y0 at *
          have s1 := Lib.hid (fun w => by have h := sub_any (T - u) (y0 * x0) w; rw [show T - u - y0 * x0 = T - (u + x0 * y0) by rw [Int.mul_comm y0 x0]; omega] at h; exact h)
          go_upto_block 3 with fail
          go_cut [12] (fun _ wx => SumsInv w U (T - (u + x0 * y0)) T wx)
          case first =>
            have u0 := HK.out.u0; have u1 := HK.out.u1; have fu0 := HK.out.fu0; have fu1 := HK.out.fu1
            go_upto_region 16 with fail
            clear hidx
            go_region_with (first
              | (go_at_call 14; refine (m1.out _).mono ?_; rintro e w' ⟨rfl, hb⟩; have hB : Below wr.heap.size wr w' := below_undrew hb; obtain ⟨hk, hf⟩ := bsome hb)
              | (go_at_call 23; refine (s1.out _).mono ?_; rintro e w' ⟨rfl, hb⟩; have hB2 := keepB (Nat.le_refl _) (by assumption : Below wr.heap.size wr _) hb; obtain ⟨hk, hf⟩ := bsome hb))
            all_goals
              have HZ : Below wr.heap.size wr w' := by assumption
              go_wp2_with fail
              go_meet
              exact (HK.out.kept HZ).put _
          case rest =>
            have HK3 := Lib.hid hcut
            clear hcut HK p0 p1 hidx
            go_wp2_with fail
            go_roundw
            case rel => exact ⟨j + 1, by omega, by go_num, by rw [HSS.out]; exact HK3.out⟩
            case measure => simp [intOf]; omega
        · have hjk : j = k := by omega
          subst hjk
          have hz : T - sumTo (fun i => X ((i + c) % j) * Y ((i + c) % j)) j = 0 := by
            by_cases h0 : j = 0
            · subst h0; rw [← HTT.out]; rfl
            · have := sumTo_rot' (fun i => X i * Y i) j c (by omega)
              rw [this, HTT.out]; omega
          have HK1 := HK.out
          rw [hz] at HK1
          have HF := Lib.hid HK1
          clear HK HK1 hz
          have u0 := HF.out.u0; have u1 := HF.out.u1
          have HS : Hid (∀ w', Below wr.heap.size wr w' → Below wr.heap.size wr w' ∧ w'.cell? ⟨U, 0, none⟩ = some (.int .i64 (whi 0)) ∧ w'.cell? ⟨U, 1, none⟩ = some (.int .u64 (wlo 0))) :=
            fun w' h => ⟨h, (HF.out.kept h).u0, (HF.out.kept h).u1⟩
          go_wp2_with fail
          go_region_held3 (fun w' => Below wr.heap.size wr w' ∧ w'.cell? ⟨U, 0, none⟩ = some (.int .i64 (whi 0)) ∧ w'.cell? ⟨U, 1, none⟩ = some (.int .u64 (wlo 0)))
            (first | exact HS.out _ ((Below.refl _ _).drew) | exact HS.out _ (keepB (Nat.le_refl _) (And.left (by assumption)) hb))
            (first
             | (go_at_call 20; refine (o0.out _).mono ?_; rintro e w' ⟨rfl, hb⟩))
          have HL : Below wr.heap.size wr w' := And.left (by assumption)
          have HB9 := HF.out.below.trans (HL.mono HF.out.below.size)
          go_wp2_with fail
          go_ret
          exact ⟨rfl, HB9⟩
end Go.Proofs.Ytjjibddpgjoeeaa
