import Derived.Test.YtjjibddpgjoeeaaRefF
namespace Go.Proofs.Ytjjibddpgjoeeaa
open Go.ChangeShapes Go.WideShapes Go.ChangeAt Go.RowKit

theorem RowOut.under {w0 w w' : World} {f : Nat → Int} {e : Ending} (h : RowOut w f e w') (hb : Below w0.heap.size w0 w) : RowOut w0 f e w' := by
  obtain ⟨v, rfl, hz, hb2⟩ := h
  have := hb.size
  exact ⟨_, rfl, ⟨hz.1, by rcases hz.2 with h | ⟨g0, c0, u0, e0, hb0, rest⟩; exact Or.inl h; exact Or.inr ⟨g0, c0, u0, e0, by omega, rest⟩⟩, hb.trans (hb2.mono hb.size)⟩

/-- Twice a row, with n added to its first digit. -/
def dbl (f : Nat → Int) (n : Int) (i : Nat) : Int := if i = 0 then 2 * f 0 + n else 2 * f i
theorem val_dbl (f : Nat → Int) (n : Int) : val8 (dbl f n) = 2 * val8 f + n := by
  unfold val8 dbl
  simp only [if_true, if_neg (show ¬ (1 : Nat) = 0 by decide), if_neg (show ¬ (2 : Nat) = 0 by decide), if_neg (show ¬ (3 : Nat) = 0 by decide), if_neg (show ¬ (4 : Nat) = 0 by decide), if_neg (show ¬ (5 : Nat) = 0 by decide), if_neg (show ¬ (6 : Nat) = 0 by decide), if_neg (show ¬ (7 : Nat) = 0 by decide)]
  omega

set_option maxHeartbeats 2000000 in
set_option maxRecDepth 100000 in
theorem twice_any (g cap : Nat) (f : Nat → Int) (n : Int) (n0 : 0 ≤ n) (n1 : n ≤ 1) (hf : Digs f) (w : World) (c1 : CellsAt w g f) :
    Calls Try.prog 38 #[.slice (some ⟨g, 0, none⟩) 8 cap, .int .i64 n] w (RowOut w (car (dbl f n))) := by
  obtain ⟨i0, hi, hz0, hz1, hz2⟩ := info_parts info3
  have C1 := Lib.hid c1
  have F1 := Lib.hid hf
  clear c1 hf
  go_enter Try.func38, Try.ntmps38
  go_wp2_with fail
  go_loopw [5, 6] (fun v i wr => ∃ k : Nat, k ≤ 8 ∧ i = .int .i64 k ∧ wr.ownsRow w.heap.size 3 1 v k (row (fun i => 2 * f i) k) ∧ Below w.heap.size w wr) (fun _ i _ => 8 - (intOf i).toNat)
  case atStart => exact ⟨0, by omega, rfl, own_none _ _, Below.refl _ _⟩
  case round =>
    obtain ⟨k, hk, rfl, hown, hB⟩ := hrel
    have hBz := hB.size
    by_cases hlt : k < 8
    · have d1 := C1.out.kept hB k hlt
      have b1 := F1.out k hlt
      obtain ⟨p0, p1⟩ := b1
      generalize hp : f k = p at *
      have hr : Hid (2 * f k = 2 * p) := by rw [hp]; rfl
      clear hp
      go_wp2_with (at_builtin; refine wpList_append_own _ rfl _ _ 46 rfl w.heap.size 3 i0 (.int .i64 0) 1 8 Try.underlying46 hi hz0 hz1 hz2 rfl (by decide) _ _ _ rfl (hown.alloc _) ⟨wr.heap.size, 0, none⟩ 1 1 [.int .i64 (2 * p)] rfl rfl (new_cell _ _ _) (one_ok _) (by unfold maxLen; omega) (by omega) (by simp; omega) ?_; intro v' w1 hown1 hgrow1 _)
      have hb1 : Below w.heap.size w w1 := (hB.alloc hBz _).grown hgrow1 (by simp; omega) (own_block hown)
      have hown2 : w1.ownsRow w.heap.size 3 1 v' (k + 1) (row (fun i => 2 * f i) (k + 1)) := by rw [row_succ, hr.out]; exact hown1
      clear hown1 hgrow1 hown hB hBz d1
      go_wp2_with fail
      go_roundw
      case rel => exact ⟨k + 1, by omega, by go_num, hown2, hb1⟩
      case measure => simp [intOf]; omega
    · have hk8 : k = 8 := by omega
      subst hk8
      obtain ⟨X, capX, rfl, hX, hcX, hXl, cX, fX⟩ := own_open hown
      have CX := Lib.hid cX
      have x0 := cX 0 (by omega)
      have f0 := fX 0 (by omega)
      have b0 := F1.out 0 (by omega)
      have hC : ∀ wx, wx = wr ∨ wx = wr.drew ∨ wx = wr.drew.drew → CellsAt (wx.setCell ⟨X, 0, none⟩ (.int .i64 (2 * f 0 + n))) X (dbl f n) ∧ Below w.heap.size w (wx.setCell ⟨X, 0, none⟩ (.int .i64 (2 * f 0 + n))) := by
        intro wx hwx
        have hc : CellsAt wx X (fun i => 2 * f i) := by rcases hwx with rfl | rfl | rfl <;> exact CX.out
        have hb : Below w.heap.size w wx := by rcases hwx with rfl | rfl | rfl; exact hB; exact hB.drew; exact hB.drew.drew
        refine ⟨fun i hi => ?_, hb.setCell hX _⟩
        by_cases e : i = 0
        · subst e
          rw [World.cell?_setCell_same' _ _ _ (by rw [hc 0 hi]; rfl)]; rfl
        · rw [World.cell?_setCell_other _ ⟨X, 0, none⟩ ⟨X, i, none⟩ _ (fun h' => e (by injection h' with _ h''; exact h''.symm)), hc i hi]
          unfold dbl; rw [if_neg e]
      have HC := Lib.hid hC
      have hd : Hid (∀ i, i < 8 → -1099511627776 ≤ dbl f n i ∧ dbl f n i ≤ 1099511627776) := fun i hi => by
        have := F1.out i hi; have := F1.out 0 (by omega)
        unfold dbl; split <;> omega
      clear hown cX fX CX hC
      dsimp only at x0
      generalize f 0 = p at *
      go_wp2_with fail
      have hfin := HC.out wr (Or.inl rfl)
      clear HC
      refine (carry_any X capX (dbl f n) hd.out _ hfin.1).mono ?_
      rintro e w2 hz
      obtain ⟨v, rfl, hz1, hz2⟩ := hz.under hfin.2
      go_wp2_with fail
      go_ret
      exact ⟨_, rfl, hz1, hz2⟩

theorem size_ref (a c : Int) (hc : c = if norm a < 0 then -a else a) (w : World) :
    Calls Try.prog 37 #[.agg #[.int .i64 (whi a), .int .u64 (wlo a)]] w (RowOut w (dgt c)) := by
  have hneg : norm a < 0 ↔ whi a < 0 := by have := wlo_lo a; have := wlo_hi a; unfold norm; omega
  by_cases h : whi a < 0
  · rw [if_pos (hneg.2 h)] at hc
    subst hc
    clear hneg
    have ng := Lib.hid (rneg_any a)
    have dg := Lib.hid (digits_any (-a))
    go_enter Try.func37, Try.ntmps37
    go_wp2_with fail
    refine (ng.out _).mono ?_
    rintro e w1 ⟨rfl, hb1⟩
    have HB1 : Below w.heap.size w w1 := ((Below.refl _ _).alloc (Nat.le_refl _) _).trans (hb1.mono (by simp))
    go_wp2_with fail
    refine (dg.out _).mono ?_
    rintro e w2 hz
    obtain ⟨v, rfl, hz1, hz2⟩ := hz.under HB1
    go_wp2_with fail
    go_ret
    exact ⟨_, rfl, hz1, hz2⟩
  · rw [if_neg (fun h' => h (hneg.1 h'))] at hc
    subst hc
    clear hneg
    have dg := Lib.hid (digits_any c)
    go_enter Try.func37, Try.ntmps37
    go_wp2_with fail
    refine (dg.out _).mono ?_
    rintro e w2 hz
    obtain ⟨v, rfl, hz1, hz2⟩ := hz.under ((Below.refl _ _).alloc (Nat.le_refl _) _)
    go_wp2_with fail
    go_ret
    exact ⟨_, rfl, hz1, hz2⟩
end Go.Proofs.Ytjjibddpgjoeeaa
