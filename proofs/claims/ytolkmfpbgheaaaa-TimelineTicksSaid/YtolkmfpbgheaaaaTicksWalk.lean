/-
  asoflaw06.TimelineTicks returns true.
-/
import Derived.Test.YtolkmfpbgheaaaaT1
namespace Go.Proofs.Ytolkmfpbgheaaaa
open Go.ChangeShapes Go.WideShapes Go.ChangeAt Go.RowKit
set_option linter.unusedVariables false
set_option linter.unusedSimpArgs false

theorem le_alloc {B : Nat} {w : World} (h : B ≤ w.heap.size) (o : Obj) : B ≤ (w.alloc o).heap.size := by simp; omega
theorem new_next (V : World) (o : Obj) (x y : Value) : Two ((V.alloc o).alloc (.cells #[x, y] 23)) (V.heap.size + 1) x y := by have := Two.new (V.alloc o) x y; simpa using this
theorem lit_next (V : World) (o : Obj) : OwnIv ((V.alloc o).alloc (.cells #[] 23)) V.heap.size (.slice (some ⟨V.heap.size + 1, 0, none⟩) 0 0) [] := by have := OwnIv.lit (W := V.alloc o) (B := V.heap.size) (by simp); simpa using this

set_option maxHeartbeats 4000000 in
set_option maxRecDepth 100000 in
theorem ticks_any (l : List Iv) (ao : Option Addr) (cap : Nat) (hlc : l.length ≤ cap) (hcap : ao = none → cap = 0) (a1 a2 : Int) (t : Int) (w : World) (h : SlotsAt w ao l) :
    Calls Try.prog 6 #[.slice ao l.length cap, iv a1 a2, .int .i64 t] w fun e w' => e = .returned (.bool true) ∧ Below w.heap.size w w' := by
  have HF := Lib.hid (fun w => few_ivs ao l.length cap hlc w)
  have HT60 : Hid (min 60 l.length = (l.take 60).length ∧ (l.take 60).length ≤ 60) := by show _ ∧ _; simp; omega
  have H := Lib.hid (h.take 60)
  have HC := Lib.hid hcap
  have HE := Lib.hid (fun w => example_any w)
  have HIN := Lib.hid inside_any
  rw [HT60.out.1] at HF
  clear h hcap
  generalize l.take 60 = k at *
  have hk60 := HT60.out.2
  obtain ⟨xs, hxs⟩ : ∃ xs, k ++ [(a1, a2)] = xs := ⟨_, rfl⟩
  have hxl : xs.length ≤ 61 := by rw [← hxs]; simp; omega
  have hul : (uni xs).length ≤ 61 := Nat.le_trans (uni_length xs) hxl
  have HUA : Hid (∀ w' A c, SlotsAt w' A xs → Calls Try.prog 17 #[.slice A xs.length c] w' (IvsAre w' (uni xs))) := fun w' A c hh => union_any xs A c (by omega) w' hh
  have HUU : Hid (∀ w' A c, SlotsAt w' A (uni xs) → Calls Try.prog 17 #[.slice A (uni xs).length c] w' (IvsAre w' (uni xs))) := fun w' A c hh => by have := union_any (uni xs) A c (by omega) w' hh; rwa [uni_uni] at this
  have HSM : Hid (∀ a1 a2 c1 c2 w', (∃ w9, SlotsAt w9 a1 (uni xs) ∧ Below w9.heap.size w9 w') → (∃ w9, SlotsAt w9 a2 (uni xs) ∧ Below w9.heap.size w9 w') → Calls Try.prog 16 #[.slice a1 (uni xs).length c1, .slice a2 (uni xs).length c2] w' fun e w2 => e = .returned (.bool true) ∧ Below w'.heap.size w' w2) :=
    fun a1 a2 c1 c2 w' h1 h2 => same_later _ (by omega) a1 a2 c1 c2 w' h1 h2
  have HUG := Lib.hid (fun k I J h1 h2 => uni_gap xs (k := k) (I := I) (J := J) h1 h2)
  have HUY := Lib.hid (fun y => uni_any xs y)
  generalize uni xs = u at *
  go_enter Try.func6, Try.ntmps6
  go_upto_region 1 with fail
  refine wp_gen (fun V hV => ?_)
  have HBV : Hid (Below w.heap.size w V) := by rw [hV]; exact below_here _
  have HVT : Hid (Two V w.heap.size (.int .i64 a1) (.int .i64 a2)) := by rw [hV]; exact Two.new _ _ _
  have HK : Hid (∀ X, Below V.heap.size V X → SlotsAt X ao k) := fun X hX => (H.out.kept HBV.out).kept hX
  obtain ⟨x0, x1, -, -⟩ := HVT.out.all
  have HBW : Hid (w.heap.size < V.heap.size) := HVT.out.lt
  clear hV H
  generalize hbx : w.heap.size = bx at *
  have B1 : Hid (Below V.heap.size V (V.alloc (.cells #[] 23)).drew) := (below_here _).drew
  have O1 : Hid (OwnIv (V.alloc (.cells #[] 23)).drew V.heap.size (.slice (some ⟨V.heap.size, 0, none⟩) 0 0) []) := OwnIv.lit (Nat.le_refl _)
  have B2 : Hid (Below V.heap.size V (((V.alloc (.cells #[] 23)).alloc (.cells #[.int .i64 a1, .int .i64 a2] 23))).drew) := ((below_here _).alloc (by simp) _).drew
  have O2 : Hid (OwnIv ((V.alloc (.cells #[] 23)).alloc (.cells #[.int .i64 a1, .int .i64 a2] 23)).drew V.heap.size (.slice (some ⟨V.heap.size, 0, none⟩) 0 0) []) := (OwnIv.lit (Nat.le_refl _)).kept ((below_here _).drew)
  have T2 : Hid (Two ((V.alloc (.cells #[] 23)).alloc (.cells #[.int .i64 a1, .int .i64 a2] 23)).drew (V.heap.size + 1) (.int .i64 a1) (.int .i64 a2)) := new_next V _ _ _
  have B3 : Hid (Below V.heap.size V (((V.alloc (.cells #[.int .i64 a1, .int .i64 a2] 23)).alloc (.cells #[] 23))).drew) := ((below_here _).alloc (by simp) _).drew
  have O3 : Hid (OwnIv ((V.alloc (.cells #[.int .i64 a1, .int .i64 a2] 23)).alloc (.cells #[] 23)).drew V.heap.size (.slice (some ⟨V.heap.size + 1, 0, none⟩) 0 0) []) := lit_next V _
  have T3 : Hid (Two ((V.alloc (.cells #[.int .i64 a1, .int .i64 a2] 23)).alloc (.cells #[] 23)).drew V.heap.size (.int .i64 a1) (.int .i64 a2)) := (Two.new V _ _).alloc _
  obtain ⟨e0, e1, -, -⟩ := (HVT.out.alloc (.cells #[] 23)).all
  have N2 : Hid (some (V.heap.size + 1) ≠ (Value.slice (some ⟨V.heap.size, 0, none⟩) 0 0).ownBlock) := by show _ ≠ _; simp [Value.ownBlock]
  have N3 : Hid (some V.heap.size ≠ (Value.slice (some ⟨V.heap.size + 1, 0, none⟩) 0 0).ownBlock) := by show _ ≠ _; simp [Value.ownBlock]
  have HL1 : Hid (([] : List Iv).length + k.length < 4398046511104) := by show _ < _; simp; omega
  have HL2 : Hid (([] ++ k : List Iv).length + 1 < 4398046511104) := by show _ < _; simp; omega
  have HV0 : Hid (V.heap.size ≤ V.heap.size) := Nat.le_refl _
  go_cut [7] from 21 to 27 (fun v wx => Hid (OwnIv wx V.heap.size v (k ++ [(a1, a2)])) ∧ Hid (Below V.heap.size V wx))
  case first =>
    go_region_law (first
      | (refine step_appL rfl (.tmp 21) (.tmp 23) rfl rfl rfl O1.out (HK.out _ B1.out) rfl HC.out B1.out.size HL1.out ?_; intro v1 w1 ho hb hgr; have HO1 := Lib.hid ho; have HB1 := Lib.hid (B1.out.trans hb); have HS1 : Hid (V.heap.size ≤ w1.heap.size) := HB1.out.size; obtain ⟨y0, y1, -, -⟩ := (HVT.out.kept HB1.out).all; clear ho hb hgr)
      | (refine step_appL rfl (.tmp 21) (.tmp 23) rfl rfl rfl O2.out (HK.out _ B2.out) rfl HC.out B2.out.size HL1.out ?_; intro v1 w1 ho hb hgr; have HO1 := Lib.hid ho; have HB1 := Lib.hid (B2.out.trans hb); have HS1 : Hid (V.heap.size ≤ w1.heap.size) := HB1.out.size; have HT1 := Lib.hid (T2.out.grown hgr N2.out); clear ho hb hgr)
      | (refine step_appL rfl (.tmp 21) (.tmp 23) rfl rfl rfl O3.out (HK.out _ B3.out) rfl HC.out B3.out.size HL1.out ?_; intro v1 w1 ho hb hgr; have HO1 := Lib.hid ho; have HB1 := Lib.hid (B3.out.trans hb); have HS1 : Hid (V.heap.size ≤ w1.heap.size) := HB1.out.size; have HT1 := Lib.hid (T3.out.grown hgr N3.out); clear ho hb hgr)
      | (refine step_app1 rfl (.tmp 24) (.tmp 26) rfl rfl rfl (HO1.out.kept (below_here _)) (Two.new _ _ _) (le_alloc HS1.out _) HL2.out ?_; intro v2 w2 ho hb; have HO2 := Lib.hid ho; have HB2 := Lib.hid ((HB1.out.alloc HS1.out _).trans hb); clear ho hb)
      | (refine step_app1 rfl (.tmp 24) (.tmp 26) rfl rfl rfl HO1.out HT1.out HS1.out HL2.out ?_; intro v2 w2 ho hb; have HO2 := Lib.hid ho; have HB2 := Lib.hid (HB1.out.trans hb); clear ho hb)
      | (go_simp; go_at_call 12; refine (HF.out _).mono ?_; rintro e w' ⟨rfl, rfl⟩))
    all_goals
      go_wp2_with fail
      go_meet
      exact ⟨by rw [← List.nil_append k]; exact HO2.out, HB2.out⟩
  case rest =>
    obtain ⟨HO, HB⟩ := hcut
    rw [hxs] at HO
    obtain ⟨A, c, rfl, hsx, -⟩ := HO.out.slots
    have HX0 := Lib.hid hsx
    have HBX : Hid (Below w.heap.size w wc) := by have h := HBV.out.trans (HB.out.mono (by rw [← hbx]; exact HBV.out.size)); rw [← hbx] at h; exact h
    have HBOX : Hid (Two wc bx (.int .i64 a1) (.int .i64 a2)) := HVT.out.kept HB.out
    clear hsx HO B1 O1 B2 O2 T2 B3 O3 T3 N2 N3 e0 e1 x0 x1 HL1 HL2 HV0 HK HF HC HT60
    go_wp2_with fail
    refine (HUA.out _ _ _ HX0.out).mono ?_
    rintro e w1 ⟨AU, cu, rfl, hsu, -, hb1⟩
    have HX1 := Lib.hid (HX0.out.kept hb1)
    have HU1 := Lib.hid hsu
    have HB1 : Hid (Below w.heap.size w w1) := HBX.out.trans (hb1.mono HBX.out.size)
    have HBOX1 := Lib.hid (HBOX.out.kept hb1)
    clear hsu hb1 HX0 HBX HBOX HB HUA HBV HVT HBW
    go_wp2_with fail
    go_loopw [9] (fun v wr => ∃ k : Nat, v = .int .i64 ((k : Int) + 1) ∧ k ≤ u.length ∧ Hid (Below w1.heap.size w1 wr)) (fun v _ => u.length + 1 - (intOf v).toNat)
    case atStart => exact ⟨0, rfl, Nat.zero_le _, Below.refl _ _⟩
    case round =>
      obtain ⟨k, rfl, hk, HB⟩ := hrel
      by_cases hlt : k + 1 < u.length
      · obtain ⟨⟨I1, I2⟩, hI⟩ : ∃ x, u[k]? = some x := ⟨u[k], List.getElem?_eq_getElem (by omega)⟩
        obtain ⟨⟨J1, J2⟩, hJ⟩ : ∃ x, u[k + 1]? = some x := ⟨u[k + 1], List.getElem?_eq_getElem hlt⟩
        obtain ⟨b1, o1, rfl, hrow⟩ := HU1.out.some (by omega)
        obtain ⟨-, y1⟩ := (hrow.kept HB.out) k _ hI
        obtain ⟨y0, -⟩ := (hrow.kept HB.out) (k + 1) _ hJ
        obtain ⟨q1, q2, q3⟩ := HUG.out k _ _ hI hJ
        have q4 := okI_yes q2
        have q5 := okI_yes q3
        simp only at q1 q4 q5 y0 y1
        have hgp : ¬ J1 ≤ I2 + 1 := by omega
        have v1 : IntKind.i64.wrap (I2 + 1) = I2 + 1 := IntWalk.i64_in _ (by omega)
        have v2 : IntKind.i64.wrap ((k : Int) + 1 - 1) = (k : Int) := by rw [show (k : Int) + 1 - 1 = k by omega]; exact IntWalk.i64_in _ (by omega)
        have v3 : IntKind.i64.wrap (k : Int) = (k : Int) := IntWalk.i64_in _ (by omega)
        have v4 : (0 : Int) ≤ (k : Int) := by omega
        have v5 : (k : Int) < (u.length : Int) := by omega
        have v6 : (0 : Int) ≤ (k : Int) + 1 := by omega
        have v7 : (k : Int) + 1 < (u.length : Int) := by omega
        clear hrow hI hJ q2 q3 q4 q5
        go_wp2_with fail
        go_quiet (fail)
        go_wp2_with fail
        go_roundw
        case rel => exact ⟨k + 1, by go_num, by omega, below_drewN HB.out _⟩
        case measure => simp [intOf]; omega
      · have hend : ¬ (k : Int) + 1 < (u.length : Int) := by omega
        obtain ⟨wb, rfl⟩ : ∃ wo : World, wo = wr := ⟨_, rfl⟩
        have HX2 := Lib.hid (HX1.out.kept HB.out)
        have HU2 := Lib.hid (HU1.out.kept HB.out)
        have HB2 := Lib.hid (HB1.out.trans (HB.out.mono HB1.out.size))
        have HBOX2 := Lib.hid (HBOX1.out.kept HB.out)
        clear HB HUG HX1 HU1 HB1 HBOX1
        go_wp2_with fail
        refine (HUU.out _ _ _ HU2.out).mono ?_
        rintro e w3 ⟨AV, cv, rfl, hsv, -, hb3⟩
        have HV3 := Lib.hid hsv
        have HX3 := Lib.hid (HX2.out.kept hb3)
        have HU3 := Lib.hid (HU2.out.kept hb3)
        have HB3 := Lib.hid (HB2.out.trans (hb3.mono HB2.out.size))
        have HBOX3 := Lib.hid (HBOX2.out.kept hb3)
        clear hsv hb3 HX2 HU2 HB2 HBOX2
        go_wp2_with fail
        refine (HSM.out _ _ _ _ _ ⟨_, HV3.out, Below.refl _ _⟩ ⟨_, HU3.out, Below.refl _ _⟩).mono ?_
        rintro e w4 ⟨rfl, hb4⟩
        have HX4 := Lib.hid (HX3.out.kept hb4)
        have HU4 := Lib.hid (HU3.out.kept hb4)
        have HB4 := Lib.hid (HB3.out.trans (hb4.mono HB3.out.size))
        have HBOX4 := Lib.hid (HBOX3.out.kept hb4)
        clear hb4 HX3 HU3 HB3 HBOX3 HV3
        go_wp2_with fail
        go_loopw [10, 11] (fun v i wr => ∃ (j : Nat) (T : List Int) (v0 : Value), v0 = v ∧ i = .int .i64 j ∧ j ≤ xs.length ∧ Hid (T.length ≤ 1 + 4 * j) ∧ Hid (OwnI wr w4.heap.size v T) ∧ Hid (Below w4.heap.size w4 wr)) (fun _ i _ => xs.length - (intOf i).toNat)
        case atStart => exact ⟨0, [t], _, rfl, rfl, Nat.zero_le _, (by show _ ≤ _; simp), OwnI.lit1 (Nat.le_refl _) t, below_here _⟩
        case round =>
          obtain ⟨j, T, v, rfl, rfl, hj, HTL, HO, HB⟩ := hrel
          by_cases hlj : j < xs.length
          · obtain ⟨⟨f, g⟩, hx⟩ : ∃ x, xs[j]? = some x := ⟨xs[j], List.getElem?_eq_getElem hlj⟩
            obtain ⟨b1, o1, rfl, hrow⟩ := HX4.out.some (by omega)
            have HRW : Hid (∀ w', Below w4.heap.size w4 w' → SlotAt w' b1 (o1 + j * 2) (f, g)) := fun w' hw => (hrow.kept hw) j _ hx
            clear hrow hx
            obtain ⟨c0, c1⟩ := HRW.out _ HB.out
            simp only at c0 c1
            cases hok : okI f g
            · have HCK : Hid (∀ w, Calls Try.prog 14 #[iv f g] w fun e w' => e = .returned (.int .i64 1) ∧ Below w.heap.size w w') := fun w => by have := check_any f g w; rw [hok] at this; exact this
              clear hok
              go_wp2_with fail
              refine (HCK.out _).mono ?_
              rintro e w5 ⟨rfl, hb5⟩
              have HO5 := Lib.hid (HO.out.kept hb5)
              have HB5 : Hid (Below w4.heap.size w4 w5) := HB.out.trans (hb5.mono HB.out.size)
              clear hb5
              go_wp2_with fail
              go_roundw
              case rel => exact ⟨j + 1, T, _, rfl, by go_num, by omega, (by have := HTL.out; show _ ≤ _; omega), HO5, HB5⟩
              case measure => simp [intOf]; omega
            · have HCK : Hid (∀ w, Calls Try.prog 14 #[iv f g] w fun e w' => e = .returned (.int .i64 0) ∧ Below w.heap.size w w') := fun w => by have := check_any f g w; rw [hok] at this; exact this
              have hb := okI_yes hok
              clear hok
              go_wp2_with fail
              refine (HCK.out _).mono ?_
              rintro e w5 ⟨rfl, hb5⟩
              have HO5 := Lib.hid (HO.out.kept hb5)
              have HB5 : Hid (Below w4.heap.size w4 w5) := HB.out.trans (hb5.mono HB.out.size)
              have HS5 : Hid (w4.heap.size ≤ (w5.alloc (.cells #[.int .i64 f, .int .i64 g, .int .i64 (f - 1), .int .i64 (g + 1)] 3)).drew.heap.size) := by have := HB5.out.size; show _ ≤ (w5.alloc _).heap.size; simp; omega
              have HBA : Hid (Below w4.heap.size w4 (w5.alloc (.cells #[.int .i64 f, .int .i64 g, .int .i64 (f - 1), .int .i64 (g + 1)] 3)).drew) := (HB5.out.alloc HB5.out.size _).drew
              have HOA : Hid (OwnI (w5.alloc (.cells #[.int .i64 f, .int .i64 g, .int .i64 (f - 1), .int .i64 (g + 1)] 3)).drew w4.heap.size v T) := HO5.out.kept ((below_here _).drew)
              have HTA : Hid ((w5.alloc (.cells #[.int .i64 f, .int .i64 g, .int .i64 (f - 1), .int .i64 (g + 1)] 3)).drew.heap[w5.heap.size]? = some (.cells #[.int .i64 f, .int .i64 g, .int .i64 (f - 1), .int .i64 (g + 1)] 3 (0, 0))) := heap_alloc_new w5 _
              have HTB : Hid (T.length < 4398046511104) := by have := HTL.out; show _ < _; omega
              have HS3 : Hid (∀ w', Below w4.heap.size w4 w' → Below w4.heap.size w4 w' ∧ w'.cell? ⟨b1, o1 + j * 2, none⟩ = some (.int .i64 f) ∧ w'.cell? ⟨b1, o1 + j * 2 + 1, none⟩ = some (.int .i64 g)) := fun w' hw => ⟨hw, HRW.out _ hw⟩
              have HBD : Hid (Below w4.heap.size w4 w5.drew) := HB5.out.drew
              have ws1 : IntKind.i64.wrap (f - 1) = f - 1 := IntWalk.i64_in _ (by omega)
              have ws2 : IntKind.i64.wrap (g + 1) = g + 1 := IntWalk.i64_in _ (by omega)
              have ws3 : IntKind.i64.wrap (j : Int) = (j : Int) := IntWalk.i64_in _ (by omega)
              have ws4 : (0 : Int) ≤ (j : Int) := by omega
              have ws5 : (j : Int) < (xs.length : Int) := by omega
              clear hb5 c0 c1
              go_upto_region 15 with fail
              go_region_held3 (fun w' => Below w4.heap.size w4 w' ∧ w'.cell? ⟨b1, o1 + j * 2, none⟩ = some (.int .i64 f) ∧ w'.cell? ⟨b1, o1 + j * 2 + 1, none⟩ = some (.int .i64 g))
                (first | exact HS3.out _ HBD.out | exact HS3.out _ HBA.out | exact HS3.out _ HB7.out)
                (first | (refine step_app4 rfl (.tmp 68) (.tmp 91) rfl rfl rfl HOA.out HTA.out HS5.out HTB.out ?_; intro v' w7 ho hb; have HO7 := Lib.hid ho; have HB7 := Lib.hid (HBA.out.trans hb); clear ho hb))
              go_wp2_with fail
              go_roundw
              case rel => exact ⟨j + 1, _, _, rfl, by go_num, by omega, (by have := HTL.out; show _ ≤ _; simp; omega), HO7, HB7⟩
              case measure => simp [intOf]; omega
          · obtain rfl : j = xs.length := by omega
            obtain ⟨wd, rfl⟩ : ∃ wo : World, wo = wr := ⟨_, rfl⟩
            obtain ⟨AT, ct, rfl, -, hint⟩ := HO.out.slots
            have HT5 := Lib.hid hint
            have HX5 := Lib.hid (HX4.out.kept HB.out)
            have HU5 := Lib.hid (HU4.out.kept HB.out)
            have HBOX5 := Lib.hid (HBOX4.out.kept HB.out)
            have HB5 := Lib.hid (HB4.out.trans (HB.out.mono HB4.out.size))
            have htl : T.length ≤ 245 := by have := HTL.out; omega
            clear hint HX4 HU4 HBOX4 HB4 HO HB HTL
            go_wp2_with fail
            go_loopw [12] (fun v wr => ∃ k : Nat, v = .int .i64 k ∧ k ≤ T.length ∧ Hid (Below wd.heap.size wd wr)) (fun v _ => T.length - (intOf v).toNat)
            case atStart => exact ⟨0, rfl, Nat.zero_le _, Below.refl _ _⟩
            case round =>
              obtain ⟨n, rfl, hn, HB⟩ := hrel
              by_cases hln : n < T.length
              · obtain ⟨y, hy⟩ : ∃ x, T[n]? = some x := ⟨T[n], List.getElem?_eq_getElem hln⟩
                obtain ⟨bt, ot, rfl, hit⟩ := HT5.out.some (by omega)
                have HYC : Hid (∀ w', Below wd.heap.size wd w' → w'.cell? ⟨bt, ot + n, none⟩ = some (.int .i64 y)) := fun w' hw => (hit.kept hw) n y hy
                have HYY := Lib.hid (HUY.out y)
                clear hit hy
                obtain ⟨we, rfl⟩ : ∃ wo : World, wo = wr := ⟨_, rfl⟩
                go_wp2_with fail
                go_loopw [13, 15] (fun b v wr => ∃ i : Nat, v = .int .i64 i ∧ i ≤ u.length ∧ b = .bool (anyB (u.take i) y) ∧ Hid (Below wd.heap.size wd wr)) (fun _ v _ => u.length - (intOf v).toNat)
                case atStart => exact ⟨0, rfl, Nat.zero_le _, rfl, HB⟩
                case round =>
                  obtain ⟨i, rfl, hi, rfl, HBI⟩ := hrel
                  by_cases hli : i < u.length
                  · obtain ⟨⟨f, g⟩, hx⟩ : ∃ x, u[i]? = some x := ⟨u[i], List.getElem?_eq_getElem hli⟩
                    obtain ⟨b1, o1, rfl, hrow⟩ := HU5.out.some (by omega)
                    have HRW : Hid (∀ w', Below wd.heap.size wd w' → w'.cell? ⟨b1, o1 + i * 2, none⟩ = some (.int .i64 f) ∧ w'.cell? ⟨b1, o1 + i * 2 + 1, none⟩ = some (.int .i64 g)) := fun w' hw => (hrow.kept hw) i _ hx
                    have HSN : Hid (anyB (u.take (i + 1)) y = (anyB (u.take i) y || inB f g y)) := anyB_snoc u i (f, g) y hx
                    have HCC := Lib.hid (fun w => HIN.out f g y w)
                    generalize anyB (u.take i) y = F at *
                    generalize inB f g y = ia at *
                    clear hrow hx
                    go_upto_region 23 with fail
                    refine wp_gen (fun V hV => ?_)
                    have HBV : Hid (Below wd.heap.size wd V) := by rw [hV]; exact HBI.out
                    clear hV
                    have r0 : ∀ d os, (Go.Sort.grow (redrawn V d) os).cell? ⟨b1, o1 + i * 2, none⟩ = some (.int .i64 f) := fun d os => cell_regrown (HRW.out _ HBV.out).1 d os
                    have r1 : ∀ d os, (Go.Sort.grow (redrawn V d) os).cell? ⟨b1, o1 + i * 2 + 1, none⟩ = some (.int .i64 g) := fun d os => cell_regrown (HRW.out _ HBV.out).2 d os
                    have r2 : ∀ d os, (Go.Sort.grow (redrawn V d) os).cell? ⟨bt, ot + n, none⟩ = some (.int .i64 y) := fun d os => cell_regrown (HYC.out _ HBV.out) d os
                    have ws1 : IntKind.i64.wrap (i : Int) = (i : Int) := IntWalk.i64_in _ (by omega)
                    have ws2 : IntKind.i64.wrap (n : Int) = (n : Int) := IntWalk.i64_in _ (by omega)
                    cases F
                    all_goals
                      have HCa := Lib.hid (fun d os => Calls.regrown_of (HCC.out (Go.Sort.grow (redrawn V d) os)))
                      refine wp_region_quiet_below (by kernel_rfl) (by kernel_rfl) ?_
                      repeat (go_big_quiet_step (first | with_reducible exact HCa.out _ _))
                      refine wpQuiet_nil ?_
                      intro _ hw'
                      obtain ⟨p, hw''⟩ := hw'
                      subst hw''
                      have HZ := below_regrown V p.d p.os
                      generalize Go.Sort.grow (redrawn V p.d) p.os = V2 at *
                      have HB2 : Hid (Below wd.heap.size wd V2) := HBV.out.trans (HZ.mono HBV.out.size)
                      clear HZ
                      go_wp2_with fail
                      go_roundw
                      case rel => exact ⟨i + 1, by go_num, by omega, by rw [HSN.out]; rfl, HB2⟩
                      case measure => simp [intOf]; omega
                  · obtain rfl : i = u.length := by omega
                    rw [List.take_length, HYY.out]
                    obtain ⟨wf, rfl⟩ : ∃ wo : World, wo = wr := ⟨_, rfl⟩
                    go_wp2_with fail
                    go_loopw [14, 16] (fun b v wr => ∃ i : Nat, v = .int .i64 i ∧ i ≤ xs.length ∧ b = .bool (anyV (xs.take i) y) ∧ Hid (Below wd.heap.size wd wr)) (fun _ v _ => xs.length - (intOf v).toNat)
                    case atStart => exact ⟨0, rfl, Nat.zero_le _, rfl, HBI⟩
                    case round =>
                      clear HBI
                      obtain ⟨i, rfl, hi2, rfl, HBI⟩ := hrel
                      by_cases hli : i < xs.length
                      · obtain ⟨⟨f, g⟩, hx⟩ : ∃ x, xs[i]? = some x := ⟨xs[i], List.getElem?_eq_getElem hli⟩
                        obtain ⟨b1, o1, rfl, hrow⟩ := HX5.out.some (by omega)
                        have HRW : Hid (∀ w', Below wd.heap.size wd w' → w'.cell? ⟨b1, o1 + i * 2, none⟩ = some (.int .i64 f) ∧ w'.cell? ⟨b1, o1 + i * 2 + 1, none⟩ = some (.int .i64 g)) := fun w' hw => (hrow.kept hw) i _ hx
                        have HSN : Hid (anyV (xs.take (i + 1)) y = (anyV (xs.take i) y || (okI f g && inB f g y))) := anyV_snoc xs i (f, g) y hx
                        clear hrow hx
                        obtain ⟨⟨⟨m1, m2⟩, mb⟩, hme⟩ : ∃ r, meetF (f, g) (a1, a2) = r := ⟨_, rfl⟩
                        have HM : Hid (∀ w, Calls Try.prog 10 #[iv f g, iv a1 a2] w fun e w' => e = .returned (.tuple #[iv m1 m2, .bool mb]) ∧ Below w.heap.size w w') := fun w => by have := meet_any (f, g) (a1, a2) w; rw [hme] at this; exact this
                        have HMI : Hid ((mb && inB m1 m2 y) = (okI f g && okI a1 a2 && (inB f g y && inB a1 a2 y))) := by have := meet_in (f, g) (a1, a2) y; rw [hme] at this; exact this
                        have HCK := Lib.hid (fun w => check_any f g w)
                        have HCA := Lib.hid (fun w => check_any a1 a2 w)
                        have HI1 := Lib.hid (fun w => HIN.out f g y w)
                        have HI2 := Lib.hid (fun w => HIN.out a1 a2 y w)
                        have HI3 := Lib.hid (fun w => HIN.out m1 m2 y w)
                        generalize anyV (xs.take i) y = F at *
                        generalize okI f g = va at *
                        generalize okI a1 a2 = vb at *
                        generalize inB f g y = ia at *
                        generalize inB a1 a2 y = ib at *
                        generalize inB m1 m2 y = im at *
                        clear hme HIN
                        obtain ⟨c0, c1⟩ := HRW.out _ HBI.out
                        go_upto_region 27 with fail
                        go_cut [17] (fun v wx => v = .bool va ∧ Hid (Below wd.heap.size wd wx))
                        case first =>
                          cases va
                          all_goals
                            go_wp2_with fail
                            refine (HCK.out _).mono ?_
                            rintro e w5 ⟨rfl, hb5⟩
                            have HB5 : Hid (Below wd.heap.size wd w5) := HBI.out.trans (hb5.mono HBI.out.size)
                            clear hb5
                            go_wp2_with fail
                            go_meet
                            exact ⟨rfl, HB5⟩
                        case rest =>
                          obtain ⟨rfl, HB27⟩ := hcut
                          clear c0 c1 HBI HCK
                          go_upto_region 28 with fail
                          refine wp_gen (fun V hV => ?_)
                          have HBV : Hid (Below wd.heap.size wd V) := by rw [hV]; exact HB27.out
                          clear hV
                          go_cut [14] (fun v wx => v = .bool (F || (va && ia)) ∧ Hid (Below wd.heap.size wd wx))
                          case first =>
                            have r0 : ∀ d os, (Go.Sort.grow (redrawn V d) os).cell? ⟨b1, o1 + i * 2, none⟩ = some (.int .i64 f) := fun d os => cell_regrown (HRW.out _ HBV.out).1 d os
                            have r1 : ∀ d os, (Go.Sort.grow (redrawn V d) os).cell? ⟨b1, o1 + i * 2 + 1, none⟩ = some (.int .i64 g) := fun d os => cell_regrown (HRW.out _ HBV.out).2 d os
                            have r2 : ∀ d os, (Go.Sort.grow (redrawn V d) os).cell? ⟨bt, ot + n, none⟩ = some (.int .i64 y) := fun d os => cell_regrown (HYC.out _ HBV.out) d os
                            have ws1 : IntKind.i64.wrap (i : Int) = (i : Int) := IntWalk.i64_in _ (by omega)
                            have ws2 : IntKind.i64.wrap (n : Int) = (n : Int) := IntWalk.i64_in _ (by omega)
                            cases F <;> cases va
                            all_goals
                              have HCa := Lib.hid (fun d os => Calls.regrown_of (HI1.out (Go.Sort.grow (redrawn V d) os)))
                              refine wp_region_quiet_below (by kernel_rfl) (by kernel_rfl) ?_
                              repeat (go_big_quiet_step (first | with_reducible exact HCa.out _ _))
                              refine wpQuiet_nil ?_
                              intro _ hw'
                              obtain ⟨p, hw''⟩ := hw'
                              subst hw''
                              have HZ := below_regrown V p.d p.os
                              generalize Go.Sort.grow (redrawn V p.d) p.os = V2 at *
                              have HB2 : Hid (Below wd.heap.size wd V2) := HBV.out.trans (HZ.mono HBV.out.size)
                              clear HZ
                              go_wp2_with fail
                              go_meet
                              exact ⟨by simp, HB2⟩
                          case rest =>
                            obtain ⟨rfl, HB28⟩ := hcut
                            clear HBV
                            generalize (F || (va && ia)) = F2 at *
                            go_upto_region 29 with fail
                            refine wp_gen (fun X hX => ?_)
                            have HXB : Hid (Below wd.heap.size wd X) := by rw [hX]; exact HB28.out
                            clear hX
                            obtain ⟨c0, c1⟩ := HRW.out _ HXB.out
                            obtain ⟨t0, t1, -, -⟩ := (HBOX5.out.kept HXB.out).all
                            have HS3 : Hid (∀ w', Below X.heap.size X w' → Below X.heap.size X w' ∧ w'.cell? ⟨b1, o1 + i * 2, none⟩ = some (.int .i64 f) ∧ w'.cell? ⟨b1, o1 + i * 2 + 1, none⟩ = some (.int .i64 g) ∧ w'.cell? ⟨bx, 0, none⟩ = some (.int .i64 a1) ∧ w'.cell? ⟨bx, 1, none⟩ = some (.int .i64 a2)) :=
                              fun w' h => ⟨h, (h.cell (cells_lt c0)).trans c0, (h.cell (cells_lt c1)).trans c1, (h.cell (cells_lt t0)).trans t0, (h.cell (cells_lt t1)).trans t1⟩
                            have ws1 : IntKind.i64.wrap (i : Int) = (i : Int) := IntWalk.i64_in _ (by omega)
                            have ws2 : IntKind.i64.wrap (n : Int) = (n : Int) := IntWalk.i64_in _ (by omega)
                            go_cut [18, 19] (fun q okv wx => ∃ qn : Nat, q = .pointer (some ⟨qn, 0, none⟩) ∧ okv = .bool mb ∧ Two wx qn (.int .i64 m1) (.int .i64 m2) ∧ Below X.heap.size X wx)
                            case first =>
                              go_region_held3 (fun w' => Below X.heap.size X w' ∧ w'.cell? ⟨b1, o1 + i * 2, none⟩ = some (.int .i64 f) ∧ w'.cell? ⟨b1, o1 + i * 2 + 1, none⟩ = some (.int .i64 g) ∧ w'.cell? ⟨bx, 0, none⟩ = some (.int .i64 a1) ∧ w'.cell? ⟨bx, 1, none⟩ = some (.int .i64 a2))
                                (first | exact HS3.out _ ((Below.refl _ _).drew) | exact HS3.out _ (keepB (Nat.le_refl _) (And.left (by assumption)) hb) | exact HS3.out _ (keepA hB9 _) | exact HS3.out _ ((keepA (Below.refl _ _) _).drew) | exact HS3.out _ ((hB9.setCell (Nat.le_refl _) _).setCell (Nat.le_refl _) _))
                                (first | (go_at_call 10; refine (HM.out _).mono ?_; rintro e w' ⟨rfl, hb⟩; have hB9 := keepB (Nat.le_refl _) (And.left (by assumption : Below X.heap.size X _ ∧ _)) hb; obtain ⟨hk9, hf9⟩ := bsome hb))
                              · go_wp2_with fail
                                go_meet
                                exact ⟨w'.heap.size, rfl, rfl, Two.new w' _ _, keepA hB9 _⟩
                              · have T9 : Two w' X.heap.size (.int .i64 0) (.int .i64 0) := (show Two (X.alloc (.cells #[.int .i64 0, .int .i64 0] 23)).drew X.heap.size (.int .i64 0) (.int .i64 0) from Two.new X _ _).kept hb
                                go_wp2_with fail
                                go_meet
                                exact ⟨X.heap.size, rfl, rfl, T9.put _ _, (hB9.setCell (Nat.le_refl _) _).setCell (Nat.le_refl _) _⟩
                            case rest =>
                              obtain ⟨qn, rfl, rfl, hq, hBq⟩ := hcut
                              have HQ := Lib.hid hq
                              have HB29 : Hid (Below wd.heap.size wd wc) := HXB.out.trans (hBq.mono HXB.out.size)
                              clear hq hBq HS3 c0 c1 t0 t1 HXB HM
                              go_upto_region 30 with fail
                              refine wp_gen (fun V hV => ?_)
                              have HBV : Hid (Below wd.heap.size wd V) := by rw [hV]; exact HB29.out
                              have HQV : Hid (Two V qn (.int .i64 m1) (.int .i64 m2)) := by rw [hV]; exact HQ.out
                              clear hV HQ HB29
                              go_cut [20] (fun v wx => v = .bool (va && vb && (ia && ib)) ∧ Hid (Below wd.heap.size wd wx) ∧ Hid (Two wx qn (.int .i64 m1) (.int .i64 m2)))
                              case first =>
                                have r0 : ∀ d os, (Go.Sort.grow (redrawn V d) os).cell? ⟨b1, o1 + i * 2, none⟩ = some (.int .i64 f) := fun d os => cell_regrown (HRW.out _ HBV.out).1 d os
                                have r1 : ∀ d os, (Go.Sort.grow (redrawn V d) os).cell? ⟨b1, o1 + i * 2 + 1, none⟩ = some (.int .i64 g) := fun d os => cell_regrown (HRW.out _ HBV.out).2 d os
                                have r2 : ∀ d os, (Go.Sort.grow (redrawn V d) os).cell? ⟨bt, ot + n, none⟩ = some (.int .i64 y) := fun d os => cell_regrown (HYC.out _ HBV.out) d os
                                have r3 : ∀ d os, (Go.Sort.grow (redrawn V d) os).cell? ⟨bx, 0, none⟩ = some (.int .i64 a1) := fun d os => cell_regrown (HBOX5.out.kept HBV.out).all.1 d os
                                have r4 : ∀ d os, (Go.Sort.grow (redrawn V d) os).cell? ⟨bx, 1, none⟩ = some (.int .i64 a2) := fun d os => cell_regrown (HBOX5.out.kept HBV.out).all.2.1 d os
                                have ws1 : IntKind.i64.wrap (i : Int) = (i : Int) := IntWalk.i64_in _ (by omega)
                                have ws2 : IntKind.i64.wrap (n : Int) = (n : Int) := IntWalk.i64_in _ (by omega)
                                cases va <;> cases vb <;> cases ia
                                all_goals
                                  have HCa := Lib.hid (fun d os => Calls.regrown_of (HI1.out (Go.Sort.grow (redrawn V d) os)))
                                  have HCb := Lib.hid (fun d os => Calls.regrown_of (HI2.out (Go.Sort.grow (redrawn V d) os)))
                                  have HCc := Lib.hid (fun d os => Calls.regrown_of (HCA.out (Go.Sort.grow (redrawn V d) os)))
                                  refine wp_region_quiet_below (by kernel_rfl) (by kernel_rfl) ?_
                                  repeat (go_big_quiet_step (first | with_reducible exact HCa.out _ _ | with_reducible exact HCb.out _ _ | with_reducible exact HCc.out _ _))
                                  refine wpQuiet_nil ?_
                                  intro _ hw'
                                  obtain ⟨p, hw''⟩ := hw'
                                  subst hw''
                                  have HZ := below_regrown V p.d p.os
                                  have HQ2 := Lib.hid (HQV.out.kept HZ)
                                  generalize Go.Sort.grow (redrawn V p.d) p.os = V2 at *
                                  have HB2 : Hid (Below wd.heap.size wd V2) := HBV.out.trans (HZ.mono HBV.out.size)
                                  clear HZ
                                  go_wp2_with fail
                                  go_meet
                                  exact ⟨by simp, HB2, HQ2⟩
                              case rest =>
                                obtain ⟨rfl, HB30, HQ30⟩ := hcut
                                clear HBV HQV HCA HI1 HI2
                                rw [← HMI.out]
                                go_upto_region 31 with fail
                                refine wp_gen (fun V hV => ?_)
                                have HBV : Hid (Below wd.heap.size wd V) := by rw [hV]; exact HB30.out
                                have HQV : Hid (Two V qn (.int .i64 m1) (.int .i64 m2)) := by rw [hV]; exact HQ30.out
                                clear hV HQ30 HB30
                                have r2 : ∀ d os, (Go.Sort.grow (redrawn V d) os).cell? ⟨bt, ot + n, none⟩ = some (.int .i64 y) := fun d os => cell_regrown (HYC.out _ HBV.out) d os
                                have r5 : ∀ d os, (Go.Sort.grow (redrawn V d) os).cell? ⟨qn, 0, none⟩ = some (.int .i64 m1) := fun d os => cell_regrown HQV.out.all.1 d os
                                have r6 : ∀ d os, (Go.Sort.grow (redrawn V d) os).cell? ⟨qn, 1, none⟩ = some (.int .i64 m2) := fun d os => cell_regrown HQV.out.all.2.1 d os
                                have ws1 : IntKind.i64.wrap (i : Int) = (i : Int) := IntWalk.i64_in _ (by omega)
                                have ws2 : IntKind.i64.wrap (n : Int) = (n : Int) := IntWalk.i64_in _ (by omega)
                                cases mb <;> cases im
                                all_goals
                                  have HCa := Lib.hid (fun d os => Calls.regrown_of (HI3.out (Go.Sort.grow (redrawn V d) os)))
                                  refine wp_region_quiet_below (by kernel_rfl) (by kernel_rfl) ?_
                                  repeat (go_big_quiet_step (first | with_reducible exact HCa.out _ _))
                                  refine wpQuiet_nil ?_
                                  intro _ hw'
                                  obtain ⟨p, hw''⟩ := hw'
                                  subst hw''
                                  have HZ := below_regrown V p.d p.os
                                  generalize Go.Sort.grow (redrawn V p.d) p.os = V2 at *
                                  have HB2 : Hid (Below wd.heap.size wd V2) := HBV.out.trans (HZ.mono HBV.out.size)
                                  clear HZ
                                  go_wp2_with fail
                                  go_roundw
                                  case rel => exact ⟨i + 1, by go_num, by omega, by rw [HSN.out], HB2⟩
                                  case measure => simp [intOf]; omega
                      · obtain rfl : i = xs.length := by omega
                        rw [List.take_length]
                        generalize anyV xs y = F at *
                        cases F
                        all_goals
                          go_wp2_with fail
                          go_roundw
                          case rel => exact ⟨n + 1, by go_num, by omega, HBI⟩
                          case measure => simp [intOf]; omega
              · obtain rfl : n = T.length := by omega
                have HB6 := Lib.hid (HB5.out.trans (HB.out.mono HB5.out.size))
                go_wp2_with fail
                refine (HE.out _).mono ?_
                rintro e w5 ⟨rfl, hb⟩
                have HB7 := Lib.hid (HB6.out.trans (hb.mono HB6.out.size))
                go_wp2_with fail
                go_ret
                exact ⟨rfl, HB7.out⟩
end Go.Proofs.Ytolkmfpbgheaaaa
