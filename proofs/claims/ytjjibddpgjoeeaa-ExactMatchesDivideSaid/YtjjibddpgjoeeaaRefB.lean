import Derived.Test.YtjjibddpgjoeeaaRefA
namespace Go.Proofs.Ytjjibddpgjoeeaa
open Go.ChangeShapes Go.WideShapes Go.ChangeAt Go.RowKit

/-- Eight integers that can be read from a block's head on. -/
def CellsAt (w : World) (g : Nat) (f : Nat → Int) : Prop := ∀ i, i < 8 → w.cell? ⟨g, i, none⟩ = some (.int .i64 (f i))
theorem own_open {w : World} {B : Nat} {v : Value} {f : Nat → Int} (h : w.ownsRow B 3 1 v 8 (row f 8)) : ∃ g cap, v = .slice (some ⟨g, 0, none⟩) 8 cap ∧ B ≤ g ∧ 8 ≤ cap ∧ g < w.heap.size ∧ CellsAt w g f ∧ ∀ i, i < 8 → w.frozen? ⟨g, i, none⟩ = false := by
  rcases h.2 with ⟨_, h'⟩ | ⟨g, cap, cur, rfl, hb, hg, hn, _⟩
  · omega
  · have hc : CellsAt w g f := fun i hi => by rw [h.cellAt i (by omega), row_get f 8 i hi]
    exact ⟨g, cap, rfl, hb, hn, (Array.getElem?_eq_some_iff.1 hg).1, hc, fun i hi => h.frozenAt i⟩
theorem CellsAt.kept {w w' : World} {g : Nat} {f : Nat → Int} (h : CellsAt w g f) (hb : Below w.heap.size w w') : CellsAt w' g f := by
  intro i hi
  rw [(bsome hb).1 _ (by rw [h i hi]; rfl), h i hi]

set_option maxHeartbeats 1000000 in
set_option maxRecDepth 100000 in
theorem make_any (g cap : Nat) (f : Nat → Int) (c : Int) (hf : ∀ i, i < 8 → 0 ≤ f i ∧ f i ≤ 65535) (hc : eqv (val8 f) c) (w : World) (hcell : CellsAt w g f) :
    Calls Try.prog 33 #[.slice (some ⟨g, 0, none⟩) 8 cap] w fun e w' => e = .returned (.agg #[.int .i64 (whi c), .int .u64 (wlo c)]) ∧ Below w.heap.size w w' := by
  have hfin := mk4_halves f hf c hc
  have HF := Lib.hid hfin
  have HC := Lib.hid hcell
  have Hf := Lib.hid hf
  have hg : g < w.heap.size := by
    rcases Nat.lt_or_ge g w.heap.size with hp | hp
    · exact hp
    · have := hcell 0 (by omega)
      have h0 : w.heap[g]? = none := Array.getElem?_eq_none hp
      simp [World.cell?, h0] at this
  clear hfin hcell hf hc
  go_enter Try.func33, Try.ntmps33
  go_wp2_with fail
  go_loopw [3, 4, 5] (fun lo hi i wr => ∃ k : Nat, k ≤ 4 ∧ i = .int .i64 (3 - (k : Int)) ∧ lo = .int .u64 (mk4 f k) ∧ hi = .int .u64 (mk4 (fun i => f (i + 4)) k) ∧ wr = w.alloc (.cells #[.int .i64 0, .int .u64 0] 24)) (fun _ _ i _ => (intOf i + 1).toNat)
  case atStart => exact ⟨0, by omega, rfl, rfl, rfl, rfl⟩
  case round =>
    obtain ⟨k, hk, rfl, rfl, rfl, rfl⟩ := hrel
    have b1 := mk4_bd f (fun i hi => Hf.out i (by omega)) k hk
    have b2 := mk4_bd (fun i => f (i + 4)) (fun i hi => Hf.out (i + 4) (by omega)) k hk
    by_cases hlt : k < 4
    · have f1 := Hf.out (3 - k) (by omega)
      have f2 := Hf.out (3 - k + 4) (by omega)
      have c1 := HC.out (3 - k) (by omega)
      have c2 := HC.out (3 - k + 4) (by omega)
      have b3 := mk4_bd f (fun i hi => Hf.out i (by omega)) (k + 1) hlt
      have b4 := mk4_bd (fun i => f (i + 4)) (fun i hi => Hf.out (i + 4) (by omega)) (k + 1) hlt
      simp only [mk4] at b3 b4
      go_wp2_with fail
      go_roundw
      case rel => exact ⟨k + 1, by omega, by go_num, rfl, rfl, trivial⟩
      case measure => simp [intOf]; omega
    · have hk4 : k = 4 := by omega
      subst hk4
      obtain ⟨e1, e2⟩ := HF.out
      have E1 : Hid (wrap64 (mk4 (fun i => f (i + 4)) 4) = whi c) := by unfold Hid wrap64; exact e1
      have E2 := Lib.hid e2
      clear e1 e2
      go_wp2_with fail
      rw [E1.out, E2.out]
      exact bodyPost_ret (v := .agg #[.int .i64 (whi c), .int .u64 (wlo c)]) (by simp [results, Try.results33, go_sem]) rfl ⟨rfl, (Below.refl _ _).alloc (Nat.le_refl _) _⟩

theorem floor_cases (t : Int) : 0 ≤ t ∨ t < 0 ∧ t.tmod 65536 = 0 ∧ t % 65536 = 0 ∧ t.tdiv 65536 = t / 65536 ∨ t < 0 ∧ t.tmod 65536 = t % 65536 - 65536 ∧ 0 < t % 65536 ∧ t.tdiv 65536 = t / 65536 + 1 := by
  rcases Int.lt_or_le t 0 with h | h
  · right
    have e : t.tmod 65536 = t - 65536 * t.tdiv 65536 := by have := Int.mul_tdiv_add_tmod t 65536; omega
    by_cases hz : t % 65536 = 0
    · left
      have : t.tdiv 65536 = t / 65536 := Int.tdiv_eq_ediv_of_dvd (Int.dvd_of_emod_eq_zero hz)
      omega
    · right
      have : t.tdiv 65536 = t / 65536 + 1 := by
        rw [Int.tdiv_eq_ediv]
        have hd : ¬ (65536 : Int) ∣ t := fun hd => hz (Int.emod_eq_zero_of_dvd hd)
        rw [if_neg (by omega)]
        rfl
      omega
  · left; exact h

set_option maxHeartbeats 2000000 in
set_option maxRecDepth 100000 in
theorem carry_any (g cap : Nat) (f : Nat → Int) (hf : ∀ i, i < 8 → -1099511627776 ≤ f i ∧ f i ≤ 1099511627776) (w : World) (hcell : CellsAt w g f) :
    Calls Try.prog 34 #[.slice (some ⟨g, 0, none⟩) 8 cap] w (RowOut w (car f)) := by
  obtain ⟨i0, hi, hz0, hz1, hz2⟩ := info_parts info3
  have HC := Lib.hid hcell
  have Hf := Lib.hid hf
  clear hcell hf
  go_enter Try.func34, Try.ntmps34
  go_wp2_with fail
  go_loopw [3, 4, 5] (fun v m i wr => ∃ k : Nat, k ≤ 8 ∧ i = .int .i64 k ∧ m = .int .i64 (more f k) ∧ wr.ownsRow w.heap.size 3 1 v k (row (car f) k) ∧ Below w.heap.size w wr) (fun _ _ i _ => 8 - (intOf i).toNat)
  case atStart => exact ⟨0, by omega, rfl, rfl, own_none _ _, Below.refl _ _⟩
  case round =>
    obtain ⟨k, hk, rfl, rfl, hown, hB⟩ := hrel
    have hBz := hB.size
    by_cases hlt : k < 8
    · have b1 := more_bd f k (fun i hi => Hf.out i (by omega))
      have b2 := Hf.out k hlt
      have c1 := HC.out.kept hB k hlt
      have hm : more f (k + 1) = (f k + more f k) / 65536 := rfl
      have hr : car f k = (f k + more f k) % 65536 := rfl
      have HM := Lib.hid hm; have HR := Lib.hid hr
      clear hm hr
      generalize more f k = m at *
      generalize hx : f k = x at *
      clear hx
      rcases floor_cases (x + m) with h | ⟨h, h1, h2, h3⟩ | ⟨h, h1, h2, h3⟩
      · go_wp2_with (at_builtin; refine wpList_append_own _ rfl _ _ 46 rfl w.heap.size 3 i0 (.int .i64 0) 1 8 Try.underlying46 hi hz0 hz1 hz2 rfl (by decide) _ _ _ rfl (hown.alloc _) ⟨wr.heap.size, 0, none⟩ 1 1 [.int .i64 ((x + m) % 65536)] rfl rfl (new_cell _ _ _) (one_ok _) (by unfold maxLen; omega) (by omega) (by simp; omega) ?_; intro v' w1 hown1 hgrow1 _)
        have hb1 : Below w.heap.size w w1 := (hB.alloc (by omega) _).grown hgrow1 (by simp; omega) (own_block hown)
        have hown2 : w1.ownsRow w.heap.size 3 1 v' (k + 1) (row (car f) (k + 1)) := by rw [row_succ, HR.out]; exact hown1
        clear hown1 hgrow1 hown hB hBz c1 b1 b2
        go_wp2_with fail
        go_roundw
        case rel => exact ⟨k + 1, by omega, by go_num, by rw [HM.out], hown2, hb1⟩
        case measure => simp [intOf]; omega
      · have h4 : (x + m) % 65536 = 0 := h2
        clear h2
        go_wp2_with (at_builtin; refine wpList_append_own _ rfl _ _ 46 rfl w.heap.size 3 i0 (.int .i64 0) 1 8 Try.underlying46 hi hz0 hz1 hz2 rfl (by decide) _ _ _ rfl (hown.alloc _) ⟨wr.heap.size, 0, none⟩ 1 1 [.int .i64 0] rfl rfl (new_cell _ _ _) (one_ok _) (by unfold maxLen; omega) (by omega) (by simp; omega) ?_; intro v' w1 hown1 hgrow1 _)
        have hb1 : Below w.heap.size w w1 := (hB.alloc (by omega) _).grown hgrow1 (by simp; omega) (own_block hown)
        have hown2 : w1.ownsRow w.heap.size 3 1 v' (k + 1) (row (car f) (k + 1)) := by rw [row_succ, HR.out, h4]; exact hown1
        clear hown1 hgrow1 hown hB hBz c1 b1 b2
        go_wp2_with fail
        go_roundw
        case rel => exact ⟨k + 1, by omega, by go_num, by rw [HM.out], hown2, hb1⟩
        case measure => simp [intOf]; omega
      · go_wp2_with (at_builtin; refine wpList_append_own _ rfl _ _ 46 rfl w.heap.size 3 i0 (.int .i64 0) 1 8 Try.underlying46 hi hz0 hz1 hz2 rfl (by decide) _ _ _ rfl (hown.alloc _) ⟨wr.heap.size, 0, none⟩ 1 1 [.int .i64 ((x + m) % 65536)] rfl rfl (new_cell _ _ _) (one_ok _) (by unfold maxLen; omega) (by omega) (by simp; omega) ?_; intro v' w1 hown1 hgrow1 _)
        have hb1 : Below w.heap.size w w1 := (hB.alloc (by omega) _).grown hgrow1 (by simp; omega) (own_block hown)
        have hown2 : w1.ownsRow w.heap.size 3 1 v' (k + 1) (row (car f) (k + 1)) := by rw [row_succ, HR.out]; exact hown1
        clear hown1 hgrow1 hown hB hBz c1 b1 b2
        go_wp2_with fail
        go_roundw
        case rel => exact ⟨k + 1, by omega, by go_num, by rw [HM.out], hown2, hb1⟩
        case measure => simp [intOf]; omega
    · have hk8 : k = 8 := by omega
      subst hk8
      go_wp2_with fail
      go_ret
      exact ⟨_, rfl, hown, hB⟩
end Go.Proofs.Ytjjibddpgjoeeaa
