/-
  asoflaw06.TimelineTiles returns true.
-/
import Derived.Test.YtolkmfpbgheaaaaTilesPlain
namespace Go.Proofs.Ytolkmfpbgheaaaa
open Go.ChangeShapes Go.WideShapes Go.ChangeAt Go.RowKit
set_option linter.unusedVariables false
set_option linter.unusedSimpArgs false

set_option maxHeartbeats 4000000 in
set_option maxRecDepth 100000 in
theorem tiles_any (f t0 s t : Int) (w : World) : Calls Try.prog 9 #[iv f t0, .int .i64 s, .int .i64 t] w fun e w' => e = .returned (.bool true) ∧ Below w.heap.size w w' := by
  have HL := Lib.hid (bkt_length f t0 s)
  have HTL := Lib.hid (bkt_tiled f t0 s)
  have B1 := Lib.hid (fun w => buckets_any f t0 s w)
  have HE := Lib.hid (fun w => example_any w)
  have HBN := Lib.hid (fun w => bounds_any 3 s t w)
  generalize bkt f t0 s = l at *
  go_enter Try.func9, Try.ntmps9
  go_wp2_with fail
  refine (B1.out _).mono ?_
  rintro e w1 ⟨ao, c, rfl, hs, hlc, hb⟩
  have BB : Hid (Below w.heap.size w w1) := (below_here _).trans (hb.mono (by simp))
  have HT : Hid (Two w1 w.heap.size (.int .i64 f) (.int .i64 t0)) := (Two.new _ _ _).kept hb
  have HS := Lib.hid hs
  obtain ⟨x0, x1, -, -⟩ := HT.out.all
  have hl4 := HL.out
  clear hb hs hlc
  by_cases hnil : l = []
  · subst hnil
    go_wp2_with fail
    go_quiet (fail)
    generalize hX : w1.drewN nq = X
    have BX : Hid (Below w.heap.size w X) := by rw [← hX]; exact below_drewN BB.out _
    clear hX x0 x1 HT BB
    go_wp2_with fail
    go_loopw [8] (fun v wr => v = .int .i64 0 ∧ Hid (Below w.heap.size w wr)) (fun _ _ => 0)
    case atStart => exact ⟨rfl, BX⟩
    case round =>
      obtain ⟨rfl, BX⟩ := hrel
      by_cases hok : (okW 3 s && okT t) = true
      · have hok' := hok
        rw [Bool.and_eq_true] at hok'
        obtain ⟨t1, t2⟩ := okT_yes hok'.2
        obtain ⟨s1, s2⟩ : 1 ≤ s ∧ s ≤ 1099511627776 := by rcases okW_yes hok'.1 with h | h <;> omega
        have HN : Hid (∀ w, Calls Try.prog 19 #[iv 3 s, .int .i64 t] w fun e w' => e = .returned (.tuple #[iv (t - t % s) t, .bool true]) ∧ Below w.heap.size w w') := fun w => by
          have := HBN.out w
          rwa [show boundsF 3 s t = ((t - t % s, t), true) by unfold boundsF; rw [if_pos hok]; rfl] at this
        obtain ⟨q0, q1, -, -, r0, r1, -⟩ := tum s t s1 t1
        clear hok hok' HBN
        go_wp2_with fail
        refine (HN.out _).mono ?_
        rintro e w2 ⟨rfl, hb⟩
        have B2 : Hid (Below w.heap.size w w2) := BX.out.trans (hb.mono BX.out.size)
        clear hb BX
        by_cases hq3 : t / s ≤ 3
        · have hq : t / s - 3 ≤ 0 := by omega
          have hmx : max 0 (t / s - 3) = 0 := by omega
          obtain ⟨m, hm⟩ := bkt_last (a := 0) s1 s2 t1 t2 (by omega) (by omega) (by omega)
          have B9 := fun w => buckets_any 0 t s w
          rw [show (0 : Int) = 0 * s by omega, hm] at B9
          have HB9 : Hid (∀ w, Calls Try.prog 21 #[iv 0 t, .int .i64 s] w (IvsAre w (m ++ [(t - t % s, t)]))) := fun w => by have := B9 w; simpa using this
          have HML : Hid (m.length ≤ 4096) := by show _ ≤ _; have := bkt_length (0 * s) t s; rw [hm] at this; simp at this; omega
          clear B9 hm
          go_wp2_with fail
          refine (HB9.out _).mono ?_
          rintro e w3 ⟨ao9, c9, rfl, hs9, -, hb9⟩
          have B3 : Hid (Below w.heap.size w w3) := (B2.out.alloc B2.out.size _).trans (hb9.mono (by have := B2.out.size; simp; omega))
          have HT9 : Hid (Two w3 w2.heap.size (.int .i64 (t - t % s)) (.int .i64 t)) := (Two.new _ _ _).kept hb9
          obtain ⟨b9, off9, rfl, hrow9⟩ := hs9.some (by simp)
          obtain ⟨y0, y1⟩ := hrow9 m.length (t - t % s, t) (by simp)
          obtain ⟨y2, y3, -, -⟩ := HT9.out.all
          have hml := HML.out
          rw [show (m ++ [(t - t % s, t)]).length = m.length + 1 by simp]
          generalize m.length = n at *
          clear hs9 hb9 hrow9 B2
          go_upto_region 14 with fail
          refine wp_gen (fun V hV => ?_)
          have HBV : Hid (Below w.heap.size w V) := by rw [hV]; exact B3.out
          have r0 : ∀ d os, (Go.Sort.grow (redrawn V d) os).cell? ⟨b9, off9 + n * 2, none⟩ = some (.int .i64 (t - t % s)) := fun d os => cell_regrown (by rw [hV]; exact y0) d os
          have r1 : ∀ d os, (Go.Sort.grow (redrawn V d) os).cell? ⟨b9, off9 + n * 2 + 1, none⟩ = some (.int .i64 t) := fun d os => cell_regrown (by rw [hV]; exact y1) d os
          have r2 : ∀ d os, (Go.Sort.grow (redrawn V d) os).cell? ⟨w2.heap.size, 0, none⟩ = some (.int .i64 (t - t % s)) := fun d os => cell_regrown (by rw [hV]; exact y2) d os
          have r3 : ∀ d os, (Go.Sort.grow (redrawn V d) os).cell? ⟨w2.heap.size, 1, none⟩ = some (.int .i64 t) := fun d os => cell_regrown (by rw [hV]; exact y3) d os
          have HC : Hid (∀ d os, Calls Try.prog 13 #[] (Go.Sort.grow (redrawn V d) os) fun e w'' => e = .returned (.bool true) ∧ ∃ p : Regrown, w'' = Go.Sort.grow (redrawn V p.d) p.os) := fun d os => Calls.regrown_of (HE.out _)
          have ws1 : IntKind.i64.wrap ((n : Int) + 1 - 1) = (n : Int) := by rw [show (n : Int) + 1 - 1 = n by omega]; exact IntWalk.i64_in _ (by omega)
          have ws2 : (n : Int) < (n : Int) + 1 := by omega
          have ws3 : IntKind.i64.wrap (n : Int) = (n : Int) := IntWalk.i64_in _ (by omega)
          have ws4 : (0 : Int) ≤ (n : Int) := by omega
          have ws5 : decide ((0 : Int) < (n : Int) + 1) = true := by first | (simp; done) | (simp; omega)
          clear hV y0 y1 y2 y3 B3 HT9
          refine wp_region_quiet_below (by kernel_rfl) (by kernel_rfl) ?_
          repeat (go_big_quiet_step (first | exact HC.out _ _))
          refine wpQuiet_nil ?_
          intro _ hw'
          obtain ⟨p, hw''⟩ := hw'
          subst hw''
          have HZ := below_regrown V p.d p.os
          generalize Go.Sort.grow (redrawn V p.d) p.os = V2 at *
          go_wp2_with fail
          go_ret
          exact ⟨rfl, HBV.out.trans (HZ.mono HBV.out.size)⟩
        · have hm0 : 0 ≤ (t / s - 3) * s := Int.mul_nonneg (by omega) (by omega)
          have hm1 : (t / s - 3) * s ≤ t := by have := mul_step (show 0 ≤ s by omega) (show t / s - 3 ≤ t / s by omega); have := (div_facts s1 t1).2.2.1; omega
          have hq : 0 < t / s - 3 := by omega
          have hmx : max 0 (t / s - 3) = t / s - 3 := by omega
          obtain ⟨m, hm⟩ := bkt_last (a := t / s - 3) s1 s2 t1 t2 (by omega) (by omega) (by omega)
          have B9 := fun w => buckets_any ((t / s - 3) * s) t s w
          rw [hm] at B9
          have HB9 : Hid (∀ w, Calls Try.prog 21 #[iv ((t / s - 3) * s) t, .int .i64 s] w (IvsAre w (m ++ [(t - t % s, t)]))) := fun w => by have := B9 w; exact this
          have HML : Hid (m.length ≤ 4096) := by show _ ≤ _; have := bkt_length ((t / s - 3) * s) t s; rw [hm] at this; simp at this; omega
          clear B9 hm
          go_wp2_with fail
          refine (HB9.out _).mono ?_
          rintro e w3 ⟨ao9, c9, rfl, hs9, -, hb9⟩
          have B3 : Hid (Below w.heap.size w w3) := (B2.out.alloc B2.out.size _).trans (hb9.mono (by have := B2.out.size; simp; omega))
          have HT9 : Hid (Two w3 w2.heap.size (.int .i64 (t - t % s)) (.int .i64 t)) := (Two.new _ _ _).kept hb9
          obtain ⟨b9, off9, rfl, hrow9⟩ := hs9.some (by simp)
          obtain ⟨y0, y1⟩ := hrow9 m.length (t - t % s, t) (by simp)
          obtain ⟨y2, y3, -, -⟩ := HT9.out.all
          have hml := HML.out
          rw [show (m ++ [(t - t % s, t)]).length = m.length + 1 by simp]
          generalize m.length = n at *
          clear hs9 hb9 hrow9 B2
          go_upto_region 14 with fail
          refine wp_gen (fun V hV => ?_)
          have HBV : Hid (Below w.heap.size w V) := by rw [hV]; exact B3.out
          have r0 : ∀ d os, (Go.Sort.grow (redrawn V d) os).cell? ⟨b9, off9 + n * 2, none⟩ = some (.int .i64 (t - t % s)) := fun d os => cell_regrown (by rw [hV]; exact y0) d os
          have r1 : ∀ d os, (Go.Sort.grow (redrawn V d) os).cell? ⟨b9, off9 + n * 2 + 1, none⟩ = some (.int .i64 t) := fun d os => cell_regrown (by rw [hV]; exact y1) d os
          have r2 : ∀ d os, (Go.Sort.grow (redrawn V d) os).cell? ⟨w2.heap.size, 0, none⟩ = some (.int .i64 (t - t % s)) := fun d os => cell_regrown (by rw [hV]; exact y2) d os
          have r3 : ∀ d os, (Go.Sort.grow (redrawn V d) os).cell? ⟨w2.heap.size, 1, none⟩ = some (.int .i64 t) := fun d os => cell_regrown (by rw [hV]; exact y3) d os
          have HC : Hid (∀ d os, Calls Try.prog 13 #[] (Go.Sort.grow (redrawn V d) os) fun e w'' => e = .returned (.bool true) ∧ ∃ p : Regrown, w'' = Go.Sort.grow (redrawn V p.d) p.os) := fun d os => Calls.regrown_of (HE.out _)
          have ws1 : IntKind.i64.wrap ((n : Int) + 1 - 1) = (n : Int) := by rw [show (n : Int) + 1 - 1 = n by omega]; exact IntWalk.i64_in _ (by omega)
          have ws2 : (n : Int) < (n : Int) + 1 := by omega
          have ws3 : IntKind.i64.wrap (n : Int) = (n : Int) := IntWalk.i64_in _ (by omega)
          have ws4 : (0 : Int) ≤ (n : Int) := by omega
          have ws5 : decide ((0 : Int) < (n : Int) + 1) = true := by first | (simp; done) | (simp; omega)
          clear hV y0 y1 y2 y3 B3 HT9
          refine wp_region_quiet_below (by kernel_rfl) (by kernel_rfl) ?_
          repeat (go_big_quiet_step (first | exact HC.out _ _))
          refine wpQuiet_nil ?_
          intro _ hw'
          obtain ⟨p, hw''⟩ := hw'
          subst hw''
          have HZ := below_regrown V p.d p.os
          generalize Go.Sort.grow (redrawn V p.d) p.os = V2 at *
          go_wp2_with fail
          go_ret
          exact ⟨rfl, HBV.out.trans (HZ.mono HBV.out.size)⟩
      · have HN : Hid (∀ w, Calls Try.prog 19 #[iv 3 s, .int .i64 t] w fun e w' => e = .returned (.tuple #[iv 0 0, .bool false]) ∧ Below w.heap.size w w') := fun w => by
          have := HBN.out w
          rwa [show boundsF 3 s t = ((0, 0), false) by unfold boundsF; rw [if_neg hok]] at this
        clear hok HBN
        go_wp2_with fail
        refine (HN.out _).mono ?_
        rintro e w2 ⟨rfl, hb⟩
        have B2 : Hid (Below w.heap.size w w2) := BX.out.trans (hb.mono BX.out.size)
        clear hb BX
        go_wp2_with fail
        refine (HE.out _).mono ?_
        rintro e w3 ⟨rfl, hb⟩
        have B3 : Hid (Below w.heap.size w w3) := (B2.out.alloc B2.out.size _).trans (hb.mono (by have := B2.out.size; simp; omega))
        go_wp2_with fail
        go_ret
        exact ⟨rfl, B3.out⟩
  · have HNE := Lib.hid hnil
    have htl : Tiled f t0 s l := HTL.out.resolve_left hnil
    clear hnil HTL
    by_cases hl0 : l.length = 0
    · obtain rfl : l = [] := List.eq_nil_of_length_eq_zero hl0
      exact absurd rfl HNE.out
    · obtain ⟨b, off, rfl, hrow⟩ := HS.out.some (by omega)
      obtain ⟨n, hn⟩ : ∃ n, l.length = n + 1 := ⟨l.length - 1, by omega⟩
      obtain ⟨⟨a1, a2⟩, ha⟩ : ∃ x, l[0]? = some x := ⟨l[0]'(by omega), List.getElem?_eq_getElem (by omega)⟩
      obtain ⟨⟨z1, z2⟩, hz⟩ : ∃ x, l[l.length - 1]? = some x := ⟨l[l.length - 1]'(by omega), List.getElem?_eq_getElem (by omega)⟩
      have c0 : w1.cell? ⟨b, off, none⟩ = some (.int .i64 a1) := (hrow 0 _ ha).1
      have c3 : w1.cell? ⟨b, off + n * 2 + 1, none⟩ = some (.int .i64 z2) := by have := (hrow _ _ hz).2; rwa [hn, Nat.add_sub_cancel] at this
      have hfirst := htl.first _ ha
      have hlast := htl.last _ hz
      simp only at hfirst hlast
      subst hfirst hlast
      have HRW := Lib.hid hrow
      have HTD := Lib.hid htl
      have HN := Lib.hid hn
      have hn4 : n ≤ 4096 := by omega
      rw [hn]
      clear ha hz hrow htl hn hl0 hl4
      have ws1 : IntKind.i64.wrap ((n : Int) + 1 - 1) = (n : Int) := by rw [show (n : Int) + 1 - 1 = n by omega]; exact IntWalk.i64_in _ (by omega)
      have ws2 : (n : Int) < (n : Int) + 1 := by omega
      have ws3 : IntKind.i64.wrap (n : Int) = (n : Int) := IntWalk.i64_in _ (by omega)
      have ws4 : (0 : Int) ≤ (n : Int) := by omega
      have ws5 : decide ((0 : Int) < (n : Int) + 1) = true := by first | (simp; done) | (simp; omega)
      go_wp2_with fail
      go_quiet (fail)
      generalize hX : w1.drewN nq = X
      have BX : Hid (Below w.heap.size w X) := by rw [← hX]; exact below_drewN BB.out _
      have HRX : Hid (RowAt X b off l) := by rw [← hX]; exact fun i x hx => HRW.out i x hx
      clear hX x0 x1 HT BB c0 c3 HRW HS
      go_wp2_with fail
      go_loopw [8] (fun v wr => ∃ k : Nat, v = .int .i64 k ∧ k ≤ n + 1 ∧ Hid (Below X.heap.size X wr)) (fun v _ => n + 1 - (intOf v).toNat)
      case atStart => exact ⟨0, rfl, by omega, Below.refl _ _⟩
      case round =>
        obtain ⟨k, rfl, hk, HB⟩ := hrel
        by_cases hkn : k < n + 1
        · obtain ⟨⟨e1, e2⟩, he⟩ : ∃ x, l[k]? = some x := ⟨l[k]'(by rw [HN.out]; exact hkn), List.getElem?_eq_getElem (by rw [HN.out]; exact hkn)⟩
          obtain ⟨p0, p1⟩ := (HRX.out.kept HB.out) k _ he
          obtain ⟨g1, g2, g3, g4⟩ := HTD.out.one k _ he
          have hs1 := HTD.out.s1
          have hs2 := HTD.out.s2
          simp only at g1 g2 g3 g4
          have hqq : (e2 / s != e1 / s) = false := by rw [g4]; simp
          have HG := Lib.hid g4
          have hk0 : (0 : Int) ≤ (k : Int) := by omega
          have hkl : (k : Int) < (n : Int) + 1 := by omega
          clear g4
          cases k with
          | zero =>
            have p2 : wr.cell? ⟨b, off, none⟩ = some (.int .i64 e1) := by simpa using p0
            have p3 : wr.cell? ⟨b, off + 1, none⟩ = some (.int .i64 e2) := by simpa using p1
            clear he p0 p1
            go_wp2_with fail
            go_quiet (fail)
            go_wp2_with fail
            go_roundw
            case rel => exact ⟨1, by simp, by omega, below_drewN HB.out _⟩
            case measure => simp [intOf]
          | succ j =>
            obtain ⟨⟨y1, y2⟩, hy⟩ : ∃ x, l[j]? = some x := ⟨l[j]'(by rw [HN.out]; omega), List.getElem?_eq_getElem (by rw [HN.out]; omega)⟩
            have p2 := ((HRX.out.kept HB.out) j _ hy).2
            obtain ⟨u1, u2, u3, -⟩ := HTD.out.one j _ hy
            have hne := HTD.out.next j _ _ hy he
            simp only at u1 u2 u3 hne
            have hn2 : (e1 != y2 + 1) = false := by rw [hne]; simp
            have HNE2 := Lib.hid hne
            have v1 : IntKind.i64.wrap (y2 + 1) = y2 + 1 := IntWalk.i64_in _ (by omega)
            have v2 : IntKind.i64.wrap ((j : Int) + 1 - 1) = (j : Int) := by rw [show (j : Int) + 1 - 1 = j by omega]; exact IntWalk.i64_in _ (by omega)
            have v3 : IntKind.i64.wrap (j : Int) = (j : Int) := IntWalk.i64_in _ (by omega)
            have v4 : (0 : Int) ≤ (j : Int) := by omega
            have v5 : (j : Int) < (n : Int) + 1 := by omega
            have v6 : (0 : Int) ≤ (j : Int) + 1 := by omega
            have v7 : (j : Int) + 1 < (n : Int) + 1 := by omega
            have v8 : decide ((0 : Int) < (j : Int) + 1) = true := by first | (simp; done) | (simp; omega)
            clear he hy hne
            go_wp2_with fail
            go_quiet (fail)
            go_wp2_with fail
            go_roundw
            case rel => exact ⟨j + 1 + 1, by go_num, by omega, below_drewN HB.out _⟩
            case measure => simp [intOf]; omega
        · obtain rfl : k = n + 1 := by omega
          have BX2 := Lib.hid (BX.out.trans (HB.out.mono BX.out.size))
          clear BX
          have BX := BX2
          clear BX2
          by_cases hok : (okW 3 s && okT t) = true
          · have hok' := hok
            rw [Bool.and_eq_true] at hok'
            obtain ⟨t1, t2⟩ := okT_yes hok'.2
            obtain ⟨s1, s2⟩ : 1 ≤ s ∧ s ≤ 1099511627776 := by rcases okW_yes hok'.1 with h | h <;> omega
            have HN : Hid (∀ w, Calls Try.prog 19 #[iv 3 s, .int .i64 t] w fun e w' => e = .returned (.tuple #[iv (t - t % s) t, .bool true]) ∧ Below w.heap.size w w') := fun w => by
              have := HBN.out w
              rwa [show boundsF 3 s t = ((t - t % s, t), true) by unfold boundsF; rw [if_pos hok]; rfl] at this
            obtain ⟨q0, q1, -, -, r0, r1, -⟩ := tum s t s1 t1
            clear hok hok' HBN
            go_wp2_with fail
            refine (HN.out _).mono ?_
            rintro e w2 ⟨rfl, hb⟩
            have B2 : Hid (Below w.heap.size w w2) := BX.out.trans (hb.mono BX.out.size)
            clear hb BX
            by_cases hq3 : t / s ≤ 3
            · have hq : t / s - 3 ≤ 0 := by omega
              have hmx : max 0 (t / s - 3) = 0 := by omega
              obtain ⟨m, hm⟩ := bkt_last (a := 0) s1 s2 t1 t2 (by omega) (by omega) (by omega)
              have B9 := fun w => buckets_any 0 t s w
              rw [show (0 : Int) = 0 * s by omega, hm] at B9
              have HB9 : Hid (∀ w, Calls Try.prog 21 #[iv 0 t, .int .i64 s] w (IvsAre w (m ++ [(t - t % s, t)]))) := fun w => by have := B9 w; simpa using this
              have HML : Hid (m.length ≤ 4096) := by show _ ≤ _; have := bkt_length (0 * s) t s; rw [hm] at this; simp at this; omega
              clear B9 hm
              go_wp2_with fail
              refine (HB9.out _).mono ?_
              rintro e w3 ⟨ao9, c9, rfl, hs9, -, hb9⟩
              have B3 : Hid (Below w.heap.size w w3) := (B2.out.alloc B2.out.size _).trans (hb9.mono (by have := B2.out.size; simp; omega))
              have HT9 : Hid (Two w3 w2.heap.size (.int .i64 (t - t % s)) (.int .i64 t)) := (Two.new _ _ _).kept hb9
              obtain ⟨b9, off9, rfl, hrow9⟩ := hs9.some (by simp)
              obtain ⟨y0, y1⟩ := hrow9 m.length (t - t % s, t) (by simp)
              obtain ⟨y2, y3, -, -⟩ := HT9.out.all
              have hml := HML.out
              rw [show (m ++ [(t - t % s, t)]).length = m.length + 1 by simp]
              generalize m.length = n at *
              clear hs9 hb9 hrow9 B2
              go_upto_region 14 with fail
              refine wp_gen (fun V hV => ?_)
              have HBV : Hid (Below w.heap.size w V) := by rw [hV]; exact B3.out
              have r0 : ∀ d os, (Go.Sort.grow (redrawn V d) os).cell? ⟨b9, off9 + n * 2, none⟩ = some (.int .i64 (t - t % s)) := fun d os => cell_regrown (by rw [hV]; exact y0) d os
              have r1 : ∀ d os, (Go.Sort.grow (redrawn V d) os).cell? ⟨b9, off9 + n * 2 + 1, none⟩ = some (.int .i64 t) := fun d os => cell_regrown (by rw [hV]; exact y1) d os
              have r2 : ∀ d os, (Go.Sort.grow (redrawn V d) os).cell? ⟨w2.heap.size, 0, none⟩ = some (.int .i64 (t - t % s)) := fun d os => cell_regrown (by rw [hV]; exact y2) d os
              have r3 : ∀ d os, (Go.Sort.grow (redrawn V d) os).cell? ⟨w2.heap.size, 1, none⟩ = some (.int .i64 t) := fun d os => cell_regrown (by rw [hV]; exact y3) d os
              have HC : Hid (∀ d os, Calls Try.prog 13 #[] (Go.Sort.grow (redrawn V d) os) fun e w'' => e = .returned (.bool true) ∧ ∃ p : Regrown, w'' = Go.Sort.grow (redrawn V p.d) p.os) := fun d os => Calls.regrown_of (HE.out _)
              have ws1 : IntKind.i64.wrap ((n : Int) + 1 - 1) = (n : Int) := by rw [show (n : Int) + 1 - 1 = n by omega]; exact IntWalk.i64_in _ (by omega)
              have ws2 : (n : Int) < (n : Int) + 1 := by omega
              have ws3 : IntKind.i64.wrap (n : Int) = (n : Int) := IntWalk.i64_in _ (by omega)
              have ws4 : (0 : Int) ≤ (n : Int) := by omega
              have ws5 : decide ((0 : Int) < (n : Int) + 1) = true := by first | (simp; done) | (simp; omega)
              clear hV y0 y1 y2 y3 B3 HT9
              refine wp_region_quiet_below (by kernel_rfl) (by kernel_rfl) ?_
              repeat (go_big_quiet_step (first | exact HC.out _ _))
              refine wpQuiet_nil ?_
              intro _ hw'
              obtain ⟨p, hw''⟩ := hw'
              subst hw''
              have HZ := below_regrown V p.d p.os
              generalize Go.Sort.grow (redrawn V p.d) p.os = V2 at *
              go_wp2_with fail
              go_ret
              exact ⟨rfl, HBV.out.trans (HZ.mono HBV.out.size)⟩
            · have hm0 : 0 ≤ (t / s - 3) * s := Int.mul_nonneg (by omega) (by omega)
              have hm1 : (t / s - 3) * s ≤ t := by have := mul_step (show 0 ≤ s by omega) (show t / s - 3 ≤ t / s by omega); have := (div_facts s1 t1).2.2.1; omega
              have hq : 0 < t / s - 3 := by omega
              have hmx : max 0 (t / s - 3) = t / s - 3 := by omega
              obtain ⟨m, hm⟩ := bkt_last (a := t / s - 3) s1 s2 t1 t2 (by omega) (by omega) (by omega)
              have B9 := fun w => buckets_any ((t / s - 3) * s) t s w
              rw [hm] at B9
              have HB9 : Hid (∀ w, Calls Try.prog 21 #[iv ((t / s - 3) * s) t, .int .i64 s] w (IvsAre w (m ++ [(t - t % s, t)]))) := fun w => by have := B9 w; exact this
              have HML : Hid (m.length ≤ 4096) := by show _ ≤ _; have := bkt_length ((t / s - 3) * s) t s; rw [hm] at this; simp at this; omega
              clear B9 hm
              go_wp2_with fail
              refine (HB9.out _).mono ?_
              rintro e w3 ⟨ao9, c9, rfl, hs9, -, hb9⟩
              have B3 : Hid (Below w.heap.size w w3) := (B2.out.alloc B2.out.size _).trans (hb9.mono (by have := B2.out.size; simp; omega))
              have HT9 : Hid (Two w3 w2.heap.size (.int .i64 (t - t % s)) (.int .i64 t)) := (Two.new _ _ _).kept hb9
              obtain ⟨b9, off9, rfl, hrow9⟩ := hs9.some (by simp)
              obtain ⟨y0, y1⟩ := hrow9 m.length (t - t % s, t) (by simp)
              obtain ⟨y2, y3, -, -⟩ := HT9.out.all
              have hml := HML.out
              rw [show (m ++ [(t - t % s, t)]).length = m.length + 1 by simp]
              generalize m.length = n at *
              clear hs9 hb9 hrow9 B2
              go_upto_region 14 with fail
              refine wp_gen (fun V hV => ?_)
              have HBV : Hid (Below w.heap.size w V) := by rw [hV]; exact B3.out
              have r0 : ∀ d os, (Go.Sort.grow (redrawn V d) os).cell? ⟨b9, off9 + n * 2, none⟩ = some (.int .i64 (t - t % s)) := fun d os => cell_regrown (by rw [hV]; exact y0) d os
              have r1 : ∀ d os, (Go.Sort.grow (redrawn V d) os).cell? ⟨b9, off9 + n * 2 + 1, none⟩ = some (.int .i64 t) := fun d os => cell_regrown (by rw [hV]; exact y1) d os
              have r2 : ∀ d os, (Go.Sort.grow (redrawn V d) os).cell? ⟨w2.heap.size, 0, none⟩ = some (.int .i64 (t - t % s)) := fun d os => cell_regrown (by rw [hV]; exact y2) d os
              have r3 : ∀ d os, (Go.Sort.grow (redrawn V d) os).cell? ⟨w2.heap.size, 1, none⟩ = some (.int .i64 t) := fun d os => cell_regrown (by rw [hV]; exact y3) d os
              have HC : Hid (∀ d os, Calls Try.prog 13 #[] (Go.Sort.grow (redrawn V d) os) fun e w'' => e = .returned (.bool true) ∧ ∃ p : Regrown, w'' = Go.Sort.grow (redrawn V p.d) p.os) := fun d os => Calls.regrown_of (HE.out _)
              have ws1 : IntKind.i64.wrap ((n : Int) + 1 - 1) = (n : Int) := by rw [show (n : Int) + 1 - 1 = n by omega]; exact IntWalk.i64_in _ (by omega)
              have ws2 : (n : Int) < (n : Int) + 1 := by omega
              have ws3 : IntKind.i64.wrap (n : Int) = (n : Int) := IntWalk.i64_in _ (by omega)
              have ws4 : (0 : Int) ≤ (n : Int) := by omega
              have ws5 : decide ((0 : Int) < (n : Int) + 1) = true := by first | (simp; done) | (simp; omega)
              clear hV y0 y1 y2 y3 B3 HT9
              refine wp_region_quiet_below (by kernel_rfl) (by kernel_rfl) ?_
              repeat (go_big_quiet_step (first | exact HC.out _ _))
              refine wpQuiet_nil ?_
              intro _ hw'
              obtain ⟨p, hw''⟩ := hw'
              subst hw''
              have HZ := below_regrown V p.d p.os
              generalize Go.Sort.grow (redrawn V p.d) p.os = V2 at *
              go_wp2_with fail
              go_ret
              exact ⟨rfl, HBV.out.trans (HZ.mono HBV.out.size)⟩
          · have HN : Hid (∀ w, Calls Try.prog 19 #[iv 3 s, .int .i64 t] w fun e w' => e = .returned (.tuple #[iv 0 0, .bool false]) ∧ Below w.heap.size w w') := fun w => by
              have := HBN.out w
              rwa [show boundsF 3 s t = ((0, 0), false) by unfold boundsF; rw [if_neg hok]] at this
            clear hok HBN
            go_wp2_with fail
            refine (HN.out _).mono ?_
            rintro e w2 ⟨rfl, hb⟩
            have B2 : Hid (Below w.heap.size w w2) := BX.out.trans (hb.mono BX.out.size)
            clear hb BX
            go_wp2_with fail
            refine (HE.out _).mono ?_
            rintro e w3 ⟨rfl, hb⟩
            have B3 : Hid (Below w.heap.size w w3) := (B2.out.alloc B2.out.size _).trans (hb.mono (by have := B2.out.size; simp; omega))
            go_wp2_with fail
            go_ret
            exact ⟨rfl, B3.out⟩
end Go.Proofs.Ytolkmfpbgheaaaa
