import Derived.Test.YtjjibddpgjoeeaaRefB
import Derived.RegionTactic
import Derived.ChangeAlike
namespace Go.Proofs.Ytjjibddpgjoeeaa
open Go.ChangeShapes Go.WideShapes Go.ChangeAt Go.RowKit

theorem refOf_any (n : Int) (w : World) (h1 : -9223372036854775808 ≤ n) (h2 : n ≤ 9223372036854775807) :
    Calls Try.prog 27 #[.int .i64 n] w fun e w' => e = .returned (.agg #[.int .i64 (whi n), .int .u64 (wlo n)]) ∧ Below w.heap.size w w' := by
  by_cases hn : n < 0
  · have e1 : whi n = -1 := by unfold whi; omega
    have e2 : wlo n = IntKind.u64.wrap n := by rw [u64w]; rfl
    rw [e1, e2]
    clear e1 e2
    go_enter Try.func27, Try.ntmps27
    go_wp2_with fail
    exact bodyPost_ret (v := .agg #[.int .i64 (-1), .int .u64 (IntKind.u64.wrap n)]) (by simp [results, Try.results27, go_sem]) rfl ⟨rfl, (Below.refl _ _).alloc (Nat.le_refl _) _⟩
  · have e1 : whi n = 0 := by unfold whi; omega
    have e2 : wlo n = n := by unfold wlo; omega
    rw [e1, e2]
    clear e1 e2
    go_enter Try.func27, Try.ntmps27
    go_wp2_with fail
    exact bodyPost_ret (v := .agg #[.int .i64 0, .int .u64 n]) (by simp [results, Try.results27, go_sem]) rfl ⟨rfl, (Below.refl _ _).alloc (Nat.le_refl _) _⟩

theorem ite_step (i k : Nat) (x y : Int) (h : i ≠ k) : (if i < k + 1 then x else y) = if i < k then x else y := by
  by_cases h1 : i < k
  · rw [if_pos h1, if_pos (by omega)]
  · rw [if_neg h1, if_neg (by omega)]
/-- Two cells that can be written. -/
structure Open2 (w : World) (R : Nat) : Prop where
  r0 : (w.cell? ⟨R, 0, none⟩).isSome = true
  r1 : (w.cell? ⟨R, 1, none⟩).isSome = true
  f0 : w.frozen? ⟨R, 0, none⟩ = false
  f1 : w.frozen? ⟨R, 1, none⟩ = false
theorem Open2.kept {w w' : World} {R : Nat} (h : Open2 w R) (hb : Below w.heap.size w w') : Open2 w' R := by
  obtain ⟨hk, hf⟩ := bsome hb
  exact ⟨by rw [hk _ h.r0]; exact h.r0, by rw [hk _ h.r1]; exact h.r1, by rw [hf _ h.r0]; exact h.f0, by rw [hf _ h.r1]; exact h.f1⟩
theorem Open2.put {w : World} {R X k : Nat} (h : Open2 w R) (v : Value) (hne : X ≠ R) : Open2 (w.setCell ⟨X, k, none⟩ v) R := by
  have e0 := World.cell?_setCell_other w ⟨X, k, none⟩ ⟨R, 0, none⟩ v (fun e => hne (by injection e))
  have e1 := World.cell?_setCell_other w ⟨X, k, none⟩ ⟨R, 1, none⟩ v (fun e => hne (by injection e))
  exact ⟨by rw [e0]; exact h.r0, by rw [e1]; exact h.r1, by rw [World.frozen?_setCell]; exact h.f0, by rw [World.frozen?_setCell]; exact h.f1⟩
theorem Open2.drew {w : World} {R : Nat} (h : Open2 w R) : Open2 w.drew R := ⟨h.r0, h.r1, h.f0, h.f1⟩

/-- Two rows of eight integers, the first one written place by place, and the result's block. -/
structure AddInv (w : World) (X Y R : Nat) (f g : Nat → Int) (wr : World) : Prop where
  below : Below w.heap.size w wr
  low : w.heap.size ≤ X
  ne : X ≠ Y
  ner : X ≠ R
  x : CellsAt wr X f
  y : CellsAt wr Y g
  fx : ∀ i, i < 8 → wr.frozen? ⟨X, i, none⟩ = false
  r : Open2 wr R
theorem AddInv.drew {w : World} {X Y R : Nat} {f g : Nat → Int} {wr : World} (h : AddInv w X Y R f g wr) : AddInv w X Y R f g wr.drew := ⟨h.below.drew, h.low, h.ne, h.ner, h.x, h.y, h.fx, h.r.drew⟩
theorem AddInv.put {w : World} {X Y R : Nat} {f f' g : Nat → Int} {wr : World} (h : AddInv w X Y R f g wr) (k : Nat) (v : Int) (hk : f' k = v) (ho : ∀ i, i ≠ k → f' i = f i) :
    AddInv w X Y R f' g (wr.setCell ⟨X, k, none⟩ (.int .i64 v)) := by
  refine ⟨h.below.setCell h.low _, h.low, h.ne, h.ner, ?_, ?_, ?_, h.r.put _ h.ner⟩
  · intro i hi
    by_cases e : i = k
    · subst e
      rw [hk, World.cell?_setCell_same' _ _ _ (by rw [h.x i hi]; rfl)]
    · rw [ho i e, World.cell?_setCell_other _ ⟨X, k, none⟩ ⟨X, i, none⟩ _ (fun h' => e (by injection h' with _ h''; exact h''.symm)), h.x i hi]
  · intro i hi
    rw [World.cell?_setCell_other _ ⟨X, k, none⟩ ⟨Y, i, none⟩ _ (fun e => h.ne (by injection e)), h.y i hi]
  · intro i hi
    rw [World.frozen?_setCell]; exact h.fx i hi

set_option maxHeartbeats 2000000 in
set_option maxRecDepth 100000 in
theorem refAdd_any (a b : Int) (w : World) :
    Calls Try.prog 22 #[.agg #[.int .i64 (whi a), .int .u64 (wlo a)], .agg #[.int .i64 (whi b), .int .u64 (wlo b)]] w fun e w' => e = .returned (.agg #[.int .i64 (whi (a + b)), .int .u64 (wlo (a + b))]) ∧ Below w.heap.size w w' := by
  have da := Lib.hid (digits_any a)
  have db := Lib.hid (digits_any b)
  go_enter Try.func22, Try.ntmps22
  go_wp2_with fail
  refine (da.out _).mono ?_
  rintro e w1 ⟨x, rfl, hx, hb1⟩
  obtain ⟨X, capX, rfl, hX, hcX, hXl, cX, fX⟩ := own_open hx
  have CX := Lib.hid cX; have FX := Lib.hid fX
  clear cX fX hx
  have hz1 := hb1.size
  simp at hz1 hX
  have k0 : w1.cell? ⟨w.heap.size + 1, 0, none⟩ = some (.int .i64 (whi b)) := by rw [hb1.cell (by simp; try omega)]; simp [go_sem]
  have k1 : w1.cell? ⟨w.heap.size + 1, 1, none⟩ = some (.int .u64 (wlo b)) := by rw [hb1.cell (by simp; try omega)]; simp [go_sem]
  have HR : Hid (Open2 w1 (w.heap.size + 1 + 1)) := Open2.kept ⟨by simp [go_sem], by simp [go_sem], by simp [go_sem], by simp [go_sem]⟩ hb1
  have HB1 : Below w.heap.size w w1 := ((((Below.refl _ _).alloc (Nat.le_refl _) _).alloc (by simp) _).alloc (by simp; omega) _).trans (hb1.mono (by simp; omega))
  go_wp2_with fail
  refine (db.out _).mono ?_
  rintro e w2 ⟨y, rfl, hy, hb2⟩
  obtain ⟨Y, capY, rfl, hY, hcY, hYl, cY, fY⟩ := own_open hy
  have HI : Hid (AddInv w X Y (w.heap.size + 1 + 1) (dgt a) (dgt b) w2) := ⟨HB1.trans (hb2.mono (by omega)), by omega, by omega, by omega, CX.out.kept hb2, cY, fun i hi => by rw [hb2.frozen (by simpa using hXl)]; exact FX.out i hi, HR.out.kept hb2⟩
  have hz2 := hb2.size
  clear cY fY hy CX FX hb1 hb2 HB1 k0 k1 HR
  go_wp2_with fail
  go_loopw [7] (fun i wr => ∃ k : Nat, k ≤ 8 ∧ i = .int .i64 k ∧ AddInv w X Y (w.heap.size + 1 + 1) (fun i => if i < k then dgt a i + dgt b i else dgt a i) (dgt b) wr) (fun i _ => 8 - (intOf i).toNat)
  case atStart => exact ⟨0, by omega, rfl, HI.out⟩
  case round =>
    obtain ⟨k, hk, rfl, hI⟩ := hrel
    have HK := Lib.hid hI
    clear hI HI
    by_cases hlt : k < 8
    · have c1 := HK.out.x k hlt
      have c2 := HK.out.y k hlt
      have c3 := HK.out.fx k hlt
      rw [if_neg (Nat.lt_irrefl k)] at c1
      have b1 := dgt_lo a k; have b2 := dgt_hi a k; have b3 := dgt_lo b k; have b4 := dgt_hi b k
      have hv : Hid ((fun i => if i < k + 1 then dgt a i + dgt b i else dgt a i) k = dgt a k + dgt b k) := if_pos (Nat.lt_succ_self k)
      generalize dgt a k = p at *
      generalize dgt b k = q at *
      go_wp2_with fail
      go_region
      all_goals
        go_wp2_with fail
        go_roundw
        case rel => exact ⟨k + 1, by omega, by go_num, by exact HK.out.drew.put (f' := fun i => if i < k + 1 then dgt a i + dgt b i else dgt a i) k (p + q) hv.out (fun i hi => ite_step i k _ _ hi)⟩
        case measure => simp [intOf]; omega
    · have hk8 : k = 8 := by omega
      subst hk8
      have HX := HK.out.x
      have e8 : ∀ i, i < 8 → (if i < 8 then dgt a i + dgt b i else dgt a i) = dgt a i + dgt b i := fun i hi => if_pos hi
      have hcx : CellsAt wr X (fun i => dgt a i + dgt b i) := fun i hi => (HX i hi).trans (congrArg (fun z => some (Value.int IntKind.i64 z)) (e8 i hi))
      have HCX := Lib.hid hcx
      clear hcx HX e8
      have cr := Lib.hid (carry_any X capX (fun i => dgt a i + dgt b i) (fun i hi => by have := dgt_lo a i; have := dgt_hi a i; have := dgt_lo b i; have := dgt_hi b i; omega) wr HCX.out)
      have hval : eqv (val8 (car (fun i => dgt a i + dgt b i))) (a + b) := by
        refine eqv_trans (val_car _) ?_
        have : val8 (fun i => dgt a i + dgt b i) = val8 (dgt a) + val8 (dgt b) := by simp only [val8]; omega
        rw [this]
        exact eqv_add (val_dgt a) (val_dgt b)
      have HV := Lib.hid hval
      clear hval
      have HR := Lib.hid HK.out.r
      have HBz := HK.out.below
      clear HK HCX
      go_wp2_with fail
      refine cr.out.mono ?_
      rintro e w3 ⟨z, rfl, hz, hb3⟩
      obtain ⟨Z, capZ, rfl, hZ, hcZ, hZl, cZ, fZ⟩ := own_open hz
      have HR3 := Lib.hid (HR.out.kept hb3)
      have HB3 := HBz.trans (hb3.mono HBz.size)
      have mk := Lib.hid (make_any Z capZ _ _ (fun i hi => ⟨car_lo _ i, car_hi _ i⟩) HV.out w3 cZ)
      clear hz cZ fZ hb3 HR HBz cr
      go_wp2_with fail
      refine mk.out.mono ?_
      rintro e w4 ⟨rfl, hb4⟩
      have HR4 := HR3.out.kept hb4
      have HB4 := HB3.trans (hb4.mono HB3.size)
      have g0 := HR4.f0; have g1 := HR4.f1; have g2 := HR4.r0; have g3 := HR4.r1
      have e2 := twoset (x := .int .i64 (whi (a + b))) (y := .int .u64 (wlo (a + b))) g2 g3
      obtain ⟨y0, hy0⟩ := Option.isSome_iff_exists.1 g2
      obtain ⟨y1, hy1⟩ := Option.isSome_iff_exists.1 g3
      have E2 := Lib.hid e2
      clear g2 g3 HR4 hb4 HB3 mk HR3 e2
      go_wp2_with fail
      refine bodyPost_ret (v := .agg #[.int .i64 (whi (a + b)), .int .u64 (wlo (a + b))]) ?_ rfl ⟨rfl, (HB4.setCell (by simp; omega) _).setCell (by simp; omega) _⟩
      simp [results, Try.results22, go_sem, E2.out.1, E2.out.2]

set_option maxHeartbeats 2000000 in
set_option maxRecDepth 100000 in
theorem refSub_any (a b : Int) (w : World) :
    Calls Try.prog 24 #[.agg #[.int .i64 (whi a), .int .u64 (wlo a)], .agg #[.int .i64 (whi b), .int .u64 (wlo b)]] w fun e w' => e = .returned (.agg #[.int .i64 (whi (a - b)), .int .u64 (wlo (a - b))]) ∧ Below w.heap.size w w' := by
  have da := Lib.hid (digits_any a)
  have db := Lib.hid (digits_any b)
  go_enter Try.func24, Try.ntmps24
  go_wp2_with fail
  refine (da.out _).mono ?_
  rintro e w1 ⟨x, rfl, hx, hb1⟩
  obtain ⟨X, capX, rfl, hX, hcX, hXl, cX, fX⟩ := own_open hx
  have CX := Lib.hid cX; have FX := Lib.hid fX
  clear cX fX hx
  have hz1 := hb1.size
  simp at hz1 hX
  have k0 : w1.cell? ⟨w.heap.size + 1, 0, none⟩ = some (.int .i64 (whi b)) := by rw [hb1.cell (by simp; try omega)]; simp [go_sem]
  have k1 : w1.cell? ⟨w.heap.size + 1, 1, none⟩ = some (.int .u64 (wlo b)) := by rw [hb1.cell (by simp; try omega)]; simp [go_sem]
  have HR : Hid (Open2 w1 (w.heap.size + 1 + 1)) := Open2.kept ⟨by simp [go_sem], by simp [go_sem], by simp [go_sem], by simp [go_sem]⟩ hb1
  have HB1 : Below w.heap.size w w1 := ((((Below.refl _ _).alloc (Nat.le_refl _) _).alloc (by simp) _).alloc (by simp; omega) _).trans (hb1.mono (by simp; omega))
  go_wp2_with fail
  refine (db.out _).mono ?_
  rintro e w2 ⟨y, rfl, hy, hb2⟩
  obtain ⟨Y, capY, rfl, hY, hcY, hYl, cY, fY⟩ := own_open hy
  have HI : Hid (AddInv w X Y (w.heap.size + 1 + 1) (dgt a) (dgt b) w2) := ⟨HB1.trans (hb2.mono (by omega)), by omega, by omega, by omega, CX.out.kept hb2, cY, fun i hi => by rw [hb2.frozen (by simpa using hXl)]; exact FX.out i hi, HR.out.kept hb2⟩
  have hz2 := hb2.size
  clear cY fY hy CX FX hb1 hb2 HB1 k0 k1 HR
  go_wp2_with fail
  go_loopw [7] (fun i wr => ∃ k : Nat, k ≤ 8 ∧ i = .int .i64 k ∧ AddInv w X Y (w.heap.size + 1 + 1) (fun i => if i < k then dgt a i - dgt b i else dgt a i) (dgt b) wr) (fun i _ => 8 - (intOf i).toNat)
  case atStart => exact ⟨0, by omega, rfl, HI.out⟩
  case round =>
    obtain ⟨k, hk, rfl, hI⟩ := hrel
    have HK := Lib.hid hI
    clear hI HI
    by_cases hlt : k < 8
    · have c1 := HK.out.x k hlt
      have c2 := HK.out.y k hlt
      have c3 := HK.out.fx k hlt
      rw [if_neg (Nat.lt_irrefl k)] at c1
      have b1 := dgt_lo a k; have b2 := dgt_hi a k; have b3 := dgt_lo b k; have b4 := dgt_hi b k
      have hv : Hid ((fun i => if i < k + 1 then dgt a i - dgt b i else dgt a i) k = dgt a k - dgt b k) := if_pos (Nat.lt_succ_self k)
      generalize dgt a k = p at *
      generalize dgt b k = q at *
      go_wp2_with fail
      go_region
      all_goals
        go_wp2_with fail
        go_roundw
        case rel => exact ⟨k + 1, by omega, by go_num, by exact HK.out.drew.put (f' := fun i => if i < k + 1 then dgt a i - dgt b i else dgt a i) k (p - q) hv.out (fun i hi => ite_step i k _ _ hi)⟩
        case measure => simp [intOf]; omega
    · have hk8 : k = 8 := by omega
      subst hk8
      have HX := HK.out.x
      have e8 : ∀ i, i < 8 → (if i < 8 then dgt a i - dgt b i else dgt a i) = dgt a i - dgt b i := fun i hi => if_pos hi
      have hcx : CellsAt wr X (fun i => dgt a i - dgt b i) := fun i hi => (HX i hi).trans (congrArg (fun z => some (Value.int IntKind.i64 z)) (e8 i hi))
      have HCX := Lib.hid hcx
      clear hcx HX e8
      have cr := Lib.hid (carry_any X capX (fun i => dgt a i - dgt b i) (fun i hi => by have := dgt_lo a i; have := dgt_hi a i; have := dgt_lo b i; have := dgt_hi b i; omega) wr HCX.out)
      have hval : eqv (val8 (car (fun i => dgt a i - dgt b i))) (a - b) := by
        refine eqv_trans (val_car _) ?_
        have : val8 (fun i => dgt a i - dgt b i) = val8 (dgt a) - val8 (dgt b) := by simp only [val8]; omega
        rw [this]
        exact eqv_sub (val_dgt a) (val_dgt b)
      have HV := Lib.hid hval
      clear hval
      have HR := Lib.hid HK.out.r
      have HBz := HK.out.below
      clear HK HCX
      go_wp2_with fail
      refine cr.out.mono ?_
      rintro e w3 ⟨z, rfl, hz, hb3⟩
      obtain ⟨Z, capZ, rfl, hZ, hcZ, hZl, cZ, fZ⟩ := own_open hz
      have HR3 := Lib.hid (HR.out.kept hb3)
      have HB3 := HBz.trans (hb3.mono HBz.size)
      have mk := Lib.hid (make_any Z capZ _ _ (fun i hi => ⟨car_lo _ i, car_hi _ i⟩) HV.out w3 cZ)
      clear hz cZ fZ hb3 HR HBz cr
      go_wp2_with fail
      refine mk.out.mono ?_
      rintro e w4 ⟨rfl, hb4⟩
      have HR4 := HR3.out.kept hb4
      have HB4 := HB3.trans (hb4.mono HB3.size)
      have g0 := HR4.f0; have g1 := HR4.f1; have g2 := HR4.r0; have g3 := HR4.r1
      have e2 := twoset (x := .int .i64 (whi (a - b))) (y := .int .u64 (wlo (a - b))) g2 g3
      obtain ⟨y0, hy0⟩ := Option.isSome_iff_exists.1 g2
      obtain ⟨y1, hy1⟩ := Option.isSome_iff_exists.1 g3
      have E2 := Lib.hid e2
      clear g2 g3 HR4 hb4 HB3 mk HR3 e2
      go_wp2_with fail
      refine bodyPost_ret (v := .agg #[.int .i64 (whi (a - b)), .int .u64 (wlo (a - b))]) ?_ rfl ⟨rfl, (HB4.setCell (by simp; omega) _).setCell (by simp; omega) _⟩
      simp [results, Try.results24, go_sem, E2.out.1, E2.out.2]
end Go.Proofs.Ytjjibddpgjoeeaa
