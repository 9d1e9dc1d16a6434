import Derived.Test.YtjjibddpgjoeeaaRefD
import Derived.Test.YtjjibddpgjoeeaaConv
import Derived.Deep.OwnRows
namespace Go.Proofs.Ytjjibddpgjoeeaa
open Go.ChangeShapes Go.WideShapes Go.ChangeAt Go.RowKit

/-- Two rows of digits, a row that is written place by place, and the result's block. -/
structure ScInv (w : World) (X Y O R : Nat) (x y f : Nat → Int) (wr : World) : Prop where
  below : Below w.heap.size w wr
  low : w.heap.size ≤ O
  nx : O ≠ X
  ny : O ≠ Y
  nr : O ≠ R
  x : CellsAt wr X x
  y : CellsAt wr Y y
  o : CellsAt wr O f
  fo : ∀ i, i < 8 → wr.frozen? ⟨O, i, none⟩ = false
  r : Open2 wr R
theorem ScInv.drew {w : World} {X Y O R : Nat} {x y f : Nat → Int} {wr : World} (h : ScInv w X Y O R x y f wr) : ScInv w X Y O R x y f wr.drew := ⟨h.below.drew, h.low, h.nx, h.ny, h.nr, h.x, h.y, h.o, h.fo, h.r.drew⟩
theorem ScInv.same {w : World} {X Y O R : Nat} {x y f f' : Nat → Int} {wr : World} (h : ScInv w X Y O R x y f wr) (e : ∀ i, i < 8 → f i = f' i) : ScInv w X Y O R x y f' wr := ⟨h.below, h.low, h.nx, h.ny, h.nr, h.x, h.y, fun i hi => by rw [← e i hi]; exact h.o i hi, h.fo, h.r⟩
theorem ScInv.put {w : World} {X Y O R : Nat} {x y f f' : Nat → Int} {wr : World} (h : ScInv w X Y O R x y f wr) (k : Nat) (v : Int) (hk : f' k = v) (ho : ∀ i, i ≠ k → f' i = f i) :
    ScInv w X Y O R x y f' (wr.setCell ⟨O, k, none⟩ (.int .i64 v)) := by
  refine ⟨h.below.setCell h.low _, h.low, h.nx, h.ny, h.nr, ?_, ?_, ?_, ?_, h.r.put _ h.nr⟩
  · intro i hi
    rw [World.cell?_setCell_other _ ⟨O, k, none⟩ ⟨X, i, none⟩ _ (fun e => h.nx (by injection e)), h.x i hi]
  · intro i hi
    rw [World.cell?_setCell_other _ ⟨O, k, none⟩ ⟨Y, i, none⟩ _ (fun e => h.ny (by injection e)), h.y i hi]
  · intro i hi
    by_cases e : i = k
    · subst e
      rw [hk, World.cell?_setCell_same' _ _ _ (by rw [h.o i hi]; rfl)]
    · rw [ho i e, World.cell?_setCell_other _ ⟨O, k, none⟩ ⟨O, i, none⟩ _ (fun h' => e (by injection h' with _ h''; exact h''.symm)), h.o i hi]
  · intro i hi
    rw [World.frozen?_setCell]; exact h.fo i hi

/-- Eight zeros in a new block. -/
def zeros : Obj := .cells #[.int .i64 0, .int .i64 0, .int .i64 0, .int .i64 0, .int .i64 0, .int .i64 0, .int .i64 0, .int .i64 0] 3
theorem made8 : madeCells #[Value.int .i64 0] 8 = #[.int .i64 0, .int .i64 0, .int .i64 0, .int .i64 0, .int .i64 0, .int .i64 0, .int .i64 0, .int .i64 0] := by kernel_rfl
theorem make8 (w : World) : (Instr.makeSlice 46 (.int .i64 8) (.int .i64 8)).run Try.prog w = .ok (.slice (some ⟨w.heap.size, 0, none⟩) 8 8) (w.alloc zeros) := by
  have h := run_make_row' (P := Try.prog) 46 3 (.int .i64 0) 8 Try.underlying46 info3 rfl .i64 .i64 8 (by decide) (by decide) w
  rw [made8] at h
  exact h
theorem zeros_cells (w : World) : CellsAt (w.alloc zeros) w.heap.size (fun _ => 0) := by
  intro i hi
  match i, hi with
  | 0, _ => simp [zeros, go_sem]
  | 1, _ => simp [zeros, go_sem]
  | 2, _ => simp [zeros, go_sem]
  | 3, _ => simp [zeros, go_sem]
  | 4, _ => simp [zeros, go_sem]
  | 5, _ => simp [zeros, go_sem]
  | 6, _ => simp [zeros, go_sem]
  | 7, _ => simp [zeros, go_sem]
theorem zeros_open (w : World) (i : Nat) : (w.alloc zeros).frozen? ⟨w.heap.size, i, none⟩ = false := by simp [zeros, go_sem]

set_option maxHeartbeats 2000000 in
set_option maxRecDepth 100000 in
theorem refScale_any (a n : Int) (n1 : -9223372036854775808 ≤ n) (n2 : n ≤ 9223372036854775807) (w : World) :
    Calls Try.prog 17 #[.agg #[.int .i64 (whi a), .int .u64 (wlo a)], .int .i64 n] w fun e w' => e = .returned (.agg #[.int .i64 (whi (a * n)), .int .u64 (wlo (a * n))]) ∧ Below w.heap.size w w' := by
  have hmk := make8
  have da := Lib.hid (digits_any a)
  have on := Lib.hid (fun w => refOf_any n w n1 n2)
  have dn := Lib.hid (digits_any n)
  go_enter Try.func17, Try.ntmps17
  go_wp2_with fail
  refine (da.out _).mono ?_
  rintro e w1 ⟨x, rfl, hx, hb1⟩
  obtain ⟨X, capX, rfl, hX, hcX, hXl, cX, fX⟩ := own_open hx
  have CX := Lib.hid cX
  clear cX fX hx
  have hz1 := hb1.size
  simp at hz1 hX
  have HR : Hid (Open2 w1 (w.heap.size + 1)) := Open2.kept ⟨by simp [go_sem], by simp [go_sem], by simp [go_sem], by simp [go_sem]⟩ hb1
  have HB1 : Below w.heap.size w w1 := (((Below.refl _ _).alloc (Nat.le_refl _) _).alloc (by simp) _).trans (hb1.mono (by simp; omega))
  go_wp2_with fail
  refine (on.out _).mono ?_
  rintro e w2 ⟨rfl, hb2⟩
  have HR2 := Lib.hid (HR.out.kept hb2)
  have CX2 := Lib.hid (CX.out.kept hb2)
  have HB2 : Below w.heap.size w w2 := HB1.trans (hb2.mono (by omega))
  have hz2 := hb2.size
  clear HR CX HB1 hb1 hb2
  go_wp2_with fail
  refine (dn.out _).mono ?_
  rintro e w3 ⟨y, rfl, hy, hb3⟩
  obtain ⟨Y, capY, rfl, hY, hcY, hYl, cY, fY⟩ := own_open hy
  have HR3 := Lib.hid (HR2.out.kept hb3)
  have CX3 := Lib.hid (CX2.out.kept hb3)
  have CY3 := Lib.hid cY
  have HB3 : Below w.heap.size w w3 := HB2.trans (hb3.mono (by omega))
  have hz3 := hb3.size
  clear HR2 CX2 HB2 hb3 cY fY hy
  go_wp2_with fail
  have hI : Hid (ScInv w X Y w3.heap.size (w.heap.size + 1) (dgt a) (dgt n) (full (dgt a) (dgt n) 0) (w3.alloc zeros)) :=
    ⟨HB3.alloc (by omega) _, by omega, by omega, by omega, by omega, CX3.out.kept (Below.alloc (Below.refl _ _) (Nat.le_refl _) _), CY3.out.kept (Below.alloc (Below.refl _ _) (Nat.le_refl _) _), zeros_cells w3, fun i _ => zeros_open w3 i, HR3.out.kept (Below.alloc (Below.refl _ _) (Nat.le_refl _) _)⟩
  clear HR3 CX3 CY3 HB3
  have hO : w.heap.size ≤ w3.heap.size := by omega
  clear hmk da on dn
  generalize w3.heap.size = O at hI hO ⊢
  clear hYl hz3 hz2 hXl hz1
  go_loopw [8] (fun v wr => ∃ i : Nat, i ≤ 8 ∧ v = .int .i64 i ∧ ScInv w X Y O (w.heap.size + 1) (dgt a) (dgt n) (full (dgt a) (dgt n) i) wr) (fun v _ => 8 - (intOf v).toNat)
  case atStart => exact ⟨0, by omega, rfl, hI.out⟩
  case round =>
    clear hI
    obtain ⟨i, hi, rfl, hI⟩ := hrel
    have HK := Lib.hid hI
    clear hI
    by_cases hlt : i < 8
    · have HP : Hid (ScInv w X Y O (w.heap.size + 1) (dgt a) (dgt n) (part (dgt a) (dgt n) i 0) wr) := HK.out.same (fun j _ => (part_zero _ _ i j).symm)
      clear HK
      go_wp2_with fail
      go_loopw [9] (fun v wr => ∃ k : Nat, i + k ≤ 8 ∧ v = .int .i64 k ∧ ScInv w X Y O (w.heap.size + 1) (dgt a) (dgt n) (part (dgt a) (dgt n) i k) wr) (fun v _ => 8 - (intOf v).toNat)
      case atStart => exact ⟨0, by omega, rfl, HP.out⟩
      case round =>
        clear HP
        obtain ⟨k, hk, rfl, hI⟩ := hrel
        have HK := Lib.hid hI
        clear hI
        by_cases hlt2 : i + k < 8
        · have c1 := HK.out.x i hlt
          have c2 := HK.out.y k (by omega)
          have c3 := HK.out.o (i + k) hlt2
          have f3 := HK.out.fo (i + k) hlt2
          have b1 := mul_bd (dgt_lo a i) (dgt_hi a i) (dgt_lo n k) (dgt_hi n k)
          have b2 := part_bd (dgt a) (dgt n) (fun i => ⟨dgt_lo a i, dgt_hi a i⟩) (fun i => ⟨dgt_lo n i, dgt_hi n i⟩) i k (i + k) hlt
          have hv : Hid (part (dgt a) (dgt n) i (k + 1) (i + k) = part (dgt a) (dgt n) i k (i + k) + dgt a i * dgt n k) := part_at _ _ i k
          obtain ⟨m0, m1⟩ := b1
          obtain ⟨p0, p1⟩ := b2
          generalize part (dgt a) (dgt n) i k (i + k) = s at *
          generalize dgt a i = p at *
          generalize dgt n k = q at *
          go_wp2_with fail
          go_region
          all_goals
            go_wp2_with fail
            go_roundw
            case rel => exact ⟨k + 1, by omega, by go_num, HK.out.drew.put (i + k) (s + p * q) hv.out (fun j hj => part_off _ _ i k j hj)⟩
            case measure => simp [intOf]; omega
        · have HE : Hid (ScInv w X Y O (w.heap.size + 1) (dgt a) (dgt n) (full (dgt a) (dgt n) (i + 1)) wr) := HK.out.same (fun j hj => part_end _ _ i k j (by omega) hj)
          clear HK
          go_wp2_with fail
          go_roundw
          case rel => exact ⟨i + 1, by omega, by go_num, HE.out⟩
          case measure => simp [intOf]; omega
    · have hi8 : i = 8 := by omega
      subst hi8
      have cr := Lib.hid (carry_any O 8 (full (dgt a) (dgt n) 8) (fun i hi => by have := full_bd (dgt a) (dgt n) (fun i => ⟨dgt_lo a i, dgt_hi a i⟩) (fun i => ⟨dgt_lo n i, dgt_hi n i⟩) i 8; omega) wr HK.out.o)
      have hval : eqv (val8 (car (full (dgt a) (dgt n) 8))) (a * n) := eqv_trans (val_car _) (eqv_trans (val_full _ _) (eqv_mul2 (val_dgt a) (val_dgt n)))
      have HV := Lib.hid hval
      clear hval
      have HR := Lib.hid HK.out.r
      have HBz := HK.out.below
      clear HK
      go_wp2_with fail
      refine cr.out.mono ?_
      rintro e w4 ⟨z, rfl, hz, hb3⟩
      obtain ⟨Z, capZ, rfl, hZ, hcZ, hZl, cZ, fZ⟩ := own_open hz
      have HR3 := Lib.hid (HR.out.kept hb3)
      have HB3 := HBz.trans (hb3.mono HBz.size)
      have mk := Lib.hid (make_any Z capZ _ _ (fun i hi => ⟨car_lo _ i, car_hi _ i⟩) HV.out w4 cZ)
      clear hz cZ fZ hb3 HR HBz cr
      go_wp2_with fail
      refine mk.out.mono ?_
      rintro e w5 ⟨rfl, hb4⟩
      have HR4 := HR3.out.kept hb4
      have HB4 := HB3.trans (hb4.mono HB3.size)
      have g0 := HR4.f0; have g1 := HR4.f1; have g2 := HR4.r0; have g3 := HR4.r1
      have e2 := twoset (x := .int .i64 (whi (a * n))) (y := .int .u64 (wlo (a * n))) g2 g3
      obtain ⟨y0, hy0⟩ := Option.isSome_iff_exists.1 g2
      obtain ⟨y1, hy1⟩ := Option.isSome_iff_exists.1 g3
      have E2 := Lib.hid e2
      clear g2 g3 HR4 hb4 HB3 mk HR3 e2
      go_wp2_with fail
      refine bodyPost_ret (v := .agg #[.int .i64 (whi (a * n)), .int .u64 (wlo (a * n))]) ?_ rfl ⟨rfl, (HB4.setCell (by simp) _).setCell (by simp) _⟩
      simp [results, Try.results17, go_sem, E2.out.1, E2.out.2]
end Go.Proofs.Ytjjibddpgjoeeaa
