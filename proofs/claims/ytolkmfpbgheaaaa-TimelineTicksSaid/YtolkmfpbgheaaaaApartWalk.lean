/-
  asoflaw06.TimelineApart returns true.
-/
import Derived.Test.YtolkmfpbgheaaaaApartPlain
namespace Go.Proofs.Ytolkmfpbgheaaaa
open Go.ChangeShapes Go.WideShapes Go.ChangeAt Go.RowKit
set_option linter.unusedVariables false
set_option linter.unusedSimpArgs false

set_option maxHeartbeats 1200000 in
set_option maxRecDepth 100000 in
theorem apart_any (s0 : List Int) (ao : Option Addr) (cap : Nat) (hlc : s0.length ≤ cap) (g m : Int) (w : World) (h : IntsIn w ao s0) :
    Calls Try.prog 7 #[.slice ao s0.length cap, .int .i64 g, .int .i64 m] w fun e w' => e = .returned (.bool true) ∧ Below w.heap.size w w' := by
  have HF := Lib.hid (fun w => few_ints ao s0.length cap hlc w)
  have HT60 : Hid (min 60 s0.length = (s0.take 60).length ∧ (s0.take 60).length ≤ 60) := by show _ ∧ _; simp; omega
  have H := Lib.hid (h.take 60)
  have HE := Lib.hid (fun w => example_any w)
  have HIN := Lib.hid inside_any
  rw [HT60.out.1] at HF
  clear h
  generalize s0.take 60 = s at *
  have hs60 := HT60.out.2
  have HS := Lib.hid (fun g w' hw => sessions_all s ao cap (by omega) g w' hw)
  have HLL := Lib.hid (sesL_len60 hs60)
  by_cases hg : gapOk g = true
  · have HCN := Lib.hid (fun x (hx : x ∈ s) => sesL_cnt hg hx)
    have HGP := Lib.hid (fun k I J h1 h2 => sesL_gap (s := s) hg (k := k) (I := I) (J := J) h1 h2)
    have HCV := Lib.hid (fun (hm : gapOk m = true) (hgm : g ≤ m) I hI => sesL_cov (s := s) hg hm hgm (I := I) hI)
    have HFW := Lib.hid (fun (hm : gapOk m = true) (hgm : g ≤ m) => sesL_fewer (s := s) hg hm hgm)
    have HSG := Lib.hid (HS.out g)
    have HSM := Lib.hid (HS.out m)
    have hll := HLL.out g
    have HWL := Lib.hid (HLL.out m)
    obtain ⟨hg1, hg2⟩ := gapOk_pos hg
    have hg3 : ¬ g < 1 := by omega
    have hg4 : ¬ (1099511627776 : Int) < g := by omega
    clear hg HS HLL
    generalize sesL s g = L at *
    generalize sesL s m = W at *
    go_enter Try.func7, Try.ntmps7
    go_wp2_with fail
    refine (HF.out _).mono ?_
    rintro e w0 ⟨rfl, rfl⟩
    go_wp2_with fail
    refine (HSG.out _ H.out).mono ?_
    rintro e w1 ⟨A1, c1, rfl, hs1, hc1, hb1⟩
    have B1 := Lib.hid hb1
    have HL1 := Lib.hid hs1
    clear hs1 hc1 hb1
    go_wp2_with fail
    go_loopw [9] (fun v wr => ∃ k : Nat, v = .int .i64 k ∧ k ≤ s.length ∧ Hid (Below w1.heap.size w1 wr)) (fun v _ => s.length - (intOf v).toNat)
    case atStart => exact ⟨0, rfl, Nat.zero_le _, Below.refl _ _⟩
    case round =>
      obtain ⟨k, rfl, hk, HB⟩ := hrel
      by_cases hlt : k < s.length
      · obtain ⟨x, hx⟩ : ∃ x, s[k]? = some x := ⟨s[k], List.getElem?_eq_getElem hlt⟩
        obtain ⟨b, o, rfl, hi⟩ := (H.out.kept B1.out).some (by omega)
        have HX0 := Lib.hid (hi k x hx)
        have HX1 := Lib.hid ((hi.kept HB.out) k x hx)
        have HCX := Lib.hid (HCN.out x (List.mem_of_getElem? hx))
        clear hi hx
        obtain ⟨wo, rfl⟩ : ∃ wo : World, wo = wr := ⟨_, rfl⟩
        go_wp2_with fail
        go_loopw [10, 11] (fun u v wr => ∃ i : Nat, v = .int .i64 i ∧ i ≤ L.length ∧ u = .int .i64 (cntI (L.take i) x : Nat) ∧ Hid (Below w1.heap.size w1 wr)) (fun _ v _ => L.length - (intOf v).toNat)
        case atStart => exact ⟨0, rfl, Nat.zero_le _, rfl, HB⟩
        case round =>
          obtain ⟨i, rfl, hi, rfl, HBI⟩ := hrel
          by_cases hli : i < L.length
          · obtain ⟨⟨I1, I2⟩, hI⟩ : ∃ x, L[i]? = some x := ⟨L[i], List.getElem?_eq_getElem hli⟩
            obtain ⟨b1, o1, rfl, hrow⟩ := HL1.out.some (by omega)
            obtain ⟨y0, y1⟩ := (hrow.kept HBI.out) i _ hI
            have z0 := HBI.out.cell (cells_lt HX0.out) |>.trans HX0.out
            have HSN := Lib.hid (cntI_snoc L i (I1, I2) x hI)
            have hcl : cntI (L.take i) x ≤ 60 := by have := cntI_le (L.take i) x; rw [List.length_take] at this; omega
            generalize cntI (L.take i) x = n at *
            simp only at y0 y1
            have HCC := Lib.hid (fun w => HIN.out I1 I2 x w)
            clear hrow hI
            go_upto_region 12 with fail
            refine wp_gen (fun V hV => ?_)
            have HBV : Hid (Below w1.heap.size w1 V) := by rw [hV]; exact HBI.out
            have r0 : ∀ d os, (Go.Sort.grow (redrawn V d) os).cell? ⟨b1, o1 + i * 2, none⟩ = some (.int .i64 I1) := fun d os => cell_regrown (by rw [hV]; exact y0) d os
            have r1 : ∀ d os, (Go.Sort.grow (redrawn V d) os).cell? ⟨b1, o1 + i * 2 + 1, none⟩ = some (.int .i64 I2) := fun d os => cell_regrown (by rw [hV]; exact y1) d os
            have r2 : ∀ d os, (Go.Sort.grow (redrawn V d) os).cell? ⟨b, o + k, none⟩ = some (.int .i64 x) := fun d os => cell_regrown (by rw [hV]; exact z0) d os
            have HSN2 : Hid (cntI (L.take (i + 1)) x = n + if inB I1 I2 x then 1 else 0) := HSN.out
            cases hin : inB I1 I2 x
            all_goals
              rw [hin] at HCC HSN2
              have HC := Lib.hid (fun d os => Calls.regrown_of (HCC.out (Go.Sort.grow (redrawn V d) os)))
              have ws1 : IntKind.i64.wrap (i : Int) = (i : Int) := IntWalk.i64_in _ (by omega)
              have ws2 : IntKind.i64.wrap (k : Int) = (k : Int) := IntWalk.i64_in _ (by omega)
              clear hV y0 y1 z0 HCC hin HSN
              refine wp_region_quiet_below (by kernel_rfl) (by kernel_rfl) ?_
              repeat (go_big_quiet_step (first | exact HC.out _ _))
              refine wpQuiet_nil ?_
              intro _ hw'
              obtain ⟨p, hw''⟩ := hw'
              subst hw''
              have HZ := below_regrown V p.d p.os
              generalize Go.Sort.grow (redrawn V p.d) p.os = V2 at *
              have HB2 : Hid (Below w1.heap.size w1 V2) := HBV.out.trans (HZ.mono HBV.out.size)
              clear HZ
              go_wp2_with fail
              go_roundw
              case rel => exact ⟨i + 1, by go_num, by omega, by rw [HSN2.out]; go_num, HB2⟩
              case measure => simp [intOf]; omega
          · obtain rfl : i = L.length := by omega
            rw [List.take_length, HCX.out]
            have z0 := HBI.out.cell (cells_lt HX0.out) |>.trans HX0.out
            by_cases hx0 : (0 : Int) ≤ x
            · by_cases hx1 : x ≤ 1099511627776
              · have hok : okT x = true := decide_eq_true ⟨hx0, hx1⟩
                rw [hok]
                go_wp2_with fail
                go_roundw
                case rel => exact ⟨k + 1, by go_num, by omega, HBI⟩
                case measure => simp [intOf]; omega
              · have hok : okT x = false := decide_eq_false (by omega)
                rw [hok]
                go_wp2_with fail
                go_roundw
                case rel => exact ⟨k + 1, by go_num, by omega, HBI⟩
                case measure => simp [intOf]; omega
            · have hok : okT x = false := decide_eq_false (by omega)
              rw [hok]
              go_wp2_with fail
              go_roundw
              case rel => exact ⟨k + 1, by go_num, by omega, HBI⟩
              case measure => simp [intOf]; omega
      · obtain rfl : k = s.length := by omega
        obtain ⟨wa, rfl⟩ : ∃ wo : World, wo = wr := ⟨_, rfl⟩
        have HBA := HB
        clear HB HCN
        go_wp2_with fail
        go_loopw [13] (fun v wr => ∃ k : Nat, v = .int .i64 ((k : Int) + 1) ∧ k ≤ L.length ∧ Hid (Below w1.heap.size w1 wr)) (fun v _ => L.length + 1 - (intOf v).toNat)
        case atStart => exact ⟨0, rfl, Nat.zero_le _, HBA⟩
        case round =>
          obtain ⟨k, rfl, hk, HB⟩ := hrel
          by_cases hlt : k + 1 < L.length
          · obtain ⟨⟨I1, I2⟩, hI⟩ : ∃ x, L[k]? = some x := ⟨L[k], List.getElem?_eq_getElem (by omega)⟩
            obtain ⟨⟨J1, J2⟩, hJ⟩ : ∃ x, L[k + 1]? = some x := ⟨L[k + 1], List.getElem?_eq_getElem hlt⟩
            obtain ⟨b1, o1, rfl, hrow⟩ := HL1.out.some (by omega)
            obtain ⟨-, y1⟩ := (hrow.kept HB.out) k _ hI
            obtain ⟨y0, -⟩ := (hrow.kept HB.out) (k + 1) _ hJ
            obtain ⟨q1, q2, q3⟩ := HGP.out k _ _ hI hJ
            simp only at q1 q2 q3 y0 y1
            have hgp : ¬ J1 - I2 ≤ g := by omega
            have v1 : IntKind.i64.wrap (J1 - I2) = J1 - I2 := IntWalk.i64_in _ (by omega)
            have v2 : IntKind.i64.wrap ((k : Int) + 1 - 1) = (k : Int) := by rw [show (k : Int) + 1 - 1 = k by omega]; exact IntWalk.i64_in _ (by omega)
            have v3 : IntKind.i64.wrap (k : Int) = (k : Int) := IntWalk.i64_in _ (by omega)
            have v4 : (0 : Int) ≤ (k : Int) := by omega
            have v5 : (k : Int) < (L.length : Int) := by omega
            have v6 : (0 : Int) ≤ (k : Int) + 1 := by omega
            have v7 : (k : Int) + 1 < (L.length : Int) := by omega
            clear hrow hI hJ
            go_wp2_with fail
            go_quiet (fail)
            go_wp2_with fail
            go_roundw
            case rel => exact ⟨k + 1, by go_num, by omega, below_drewN HB.out _⟩
            case measure => simp [intOf]; omega
          · have hend : ¬ (k : Int) + 1 < (L.length : Int) := by omega
            obtain ⟨wb, rfl⟩ : ∃ wo : World, wo = wr := ⟨_, rfl⟩
            have HBB := Lib.hid (B1.out.trans (HB.out.mono B1.out.size))
            have HL2 := Lib.hid (HL1.out.kept HB.out)
            clear HB HBA HGP
            by_cases hm1 : m < g
            · go_wp2_with fail
              refine (HE.out _).mono ?_
              rintro e w4 ⟨rfl, hb⟩
              have B5 := Lib.hid (HBB.out.trans (hb.mono HBB.out.size))
              go_wp2_with fail
              go_ret
              exact ⟨rfl, B5.out⟩
            · by_cases hm2 : (1099511627776 : Int) < m
              · go_wp2_with fail
                refine (HE.out _).mono ?_
                rintro e w4 ⟨rfl, hb⟩
                have B5 := Lib.hid (HBB.out.trans (hb.mono HBB.out.size))
                go_wp2_with fail
                go_ret
                exact ⟨rfl, B5.out⟩
              · have hm : gapOk m = true := decide_eq_true ⟨by omega, by omega⟩
                have HCV := Lib.hid (HCV.out hm (by omega))
                have hfw := HFW.out hm (by omega)
                have hfw2 : (W.length : Int) ≤ (L.length : Int) := by omega
                clear HFW hm
                go_wp2_with fail
                refine (HSM.out _ (H.out.kept HBB.out)).mono ?_
                rintro e w4 ⟨A4, c4, rfl, hs4, -, hb4⟩
                have B4 := Lib.hid (HBB.out.trans (hb4.mono HBB.out.size))
                have HW4 := Lib.hid hs4
                have HL4 := Lib.hid (HL2.out.kept hb4)
                have hwl := HWL.out
                clear hs4 hb4
                go_wp2_with fail
                go_loopw [15] (fun v wr => ∃ k : Nat, v = .int .i64 k ∧ k ≤ L.length ∧ Hid (Below w4.heap.size w4 wr)) (fun v _ => L.length - (intOf v).toNat)
                case atStart => exact ⟨0, rfl, Nat.zero_le _, Below.refl _ _⟩
                case round =>
                  obtain ⟨i, rfl, hi, HB⟩ := hrel
                  by_cases hli : i < L.length
                  · obtain ⟨⟨I1, I2⟩, hI⟩ : ∃ x, L[i]? = some x := ⟨L[i], List.getElem?_eq_getElem hli⟩
                    obtain ⟨b1, o1, rfl, hrow⟩ := HL4.out.some (by omega)
                    have HRW : Hid (∀ w', Below w4.heap.size w4 w' → SlotAt w' b1 (o1 + i * 2) (I1, I2)) := fun w' hw => (hrow.kept hw) i _ hI
                    have HCI := Lib.hid (HCV.out _ (List.mem_of_getElem? hI))
                    clear hrow hI
                    simp only at HCI
                    obtain ⟨wo, rfl⟩ : ∃ wo : World, wo = wr := ⟨_, rfl⟩
                    go_wp2_with fail
                    go_loopw [16, 17] (fun u v wr => ∃ j : Nat, v = .int .i64 j ∧ j ≤ W.length ∧ u = .bool (cov (W.take j) I1 I2) ∧ Hid (Below w4.heap.size w4 wr)) (fun _ v _ => W.length - (intOf v).toNat)
                    case atStart => exact ⟨0, rfl, Nat.zero_le _, rfl, HB⟩
                    case round =>
                      obtain ⟨j, rfl, hj, rfl, HBJ⟩ := hrel
                      by_cases hlj : j < W.length
                      · obtain ⟨⟨J1, J2⟩, hJ⟩ : ∃ x, W[j]? = some x := ⟨W[j], List.getElem?_eq_getElem hlj⟩
                        obtain ⟨b4, o4, rfl, hrow⟩ := HW4.out.some (by omega)
                        obtain ⟨y0, y1⟩ := (hrow.kept HBJ.out) j _ hJ
                        obtain ⟨z0, z1⟩ := HRW.out _ HBJ.out
                        have HSN : Hid (cov (W.take (j + 1)) I1 I2 = _) := cov_snoc W j (J1, J2) I1 I2 hJ
                        generalize cov (W.take j) I1 I2 = F at *
                        simp only at y0 y1 HSN
                        have HC1 := Lib.hid (fun w => HIN.out J1 J2 I1 w)
                        have HC2 := Lib.hid (fun w => HIN.out J1 J2 I2 w)
                        clear hrow hJ
                        go_upto_region 32 with fail
                        refine wp_gen (fun V hV => ?_)
                        have HBV : Hid (Below w4.heap.size w4 V) := by rw [hV]; exact HBJ.out
                        have r0 : ∀ d os, (Go.Sort.grow (redrawn V d) os).cell? ⟨b4, o4 + j * 2, none⟩ = some (.int .i64 J1) := fun d os => cell_regrown (by rw [hV]; exact y0) d os
                        have r1 : ∀ d os, (Go.Sort.grow (redrawn V d) os).cell? ⟨b4, o4 + j * 2 + 1, none⟩ = some (.int .i64 J2) := fun d os => cell_regrown (by rw [hV]; exact y1) d os
                        have r2 : ∀ d os, (Go.Sort.grow (redrawn V d) os).cell? ⟨b1, o1 + i * 2, none⟩ = some (.int .i64 I1) := fun d os => cell_regrown (by rw [hV]; exact z0) d os
                        have r3 : ∀ d os, (Go.Sort.grow (redrawn V d) os).cell? ⟨b1, o1 + i * 2 + 1, none⟩ = some (.int .i64 I2) := fun d os => cell_regrown (by rw [hV]; exact z1) d os
                        have ws1 : IntKind.i64.wrap (i : Int) = (i : Int) := IntWalk.i64_in _ (by omega)
                        have ws2 : IntKind.i64.wrap (j : Int) = (j : Int) := IntWalk.i64_in _ (by omega)
                        clear hV y0 y1 z0 z1
                        generalize inB J1 J2 I1 = u1 at *
                        generalize inB J1 J2 I2 = u2 at *
                        cases F <;> cases u1 <;> cases u2
                        all_goals
                          have HCa := Lib.hid (fun d os => Calls.regrown_of (HC1.out (Go.Sort.grow (redrawn V d) os)))
                          have HCb := Lib.hid (fun d os => Calls.regrown_of (HC2.out (Go.Sort.grow (redrawn V d) os)))
                          clear HC1 HC2
                          refine wp_region_quiet_below (by kernel_rfl) (by kernel_rfl) ?_
                          repeat (go_big_quiet_step (first | with_reducible exact HCa.out _ _ | with_reducible exact HCb.out _ _))
                          refine wpQuiet_nil ?_
                          intro _ hw'
                          obtain ⟨p, hw''⟩ := hw'
                          subst hw''
                          have HZ := below_regrown V p.d p.os
                          generalize Go.Sort.grow (redrawn V p.d) p.os = V2 at *
                          have HB2 : Hid (Below w4.heap.size w4 V2) := HBV.out.trans (HZ.mono HBV.out.size)
                          clear HZ HCa HCb
                          go_wp2_with fail
                          go_roundw
                          case rel => exact ⟨j + 1, by go_num, by omega, by rw [HSN.out]; rfl, HB2⟩
                          case measure => simp [intOf]; omega
                      · obtain rfl : j = W.length := by omega
                        rw [List.take_length, HCI.out]
                        go_wp2_with fail
                        go_roundw
                        case rel => exact ⟨i + 1, by go_num, by omega, HBJ⟩
                        case measure => simp [intOf]; omega
                  · obtain rfl : i = L.length := by omega
                    have B6 := Lib.hid (B4.out.trans (HB.out.mono B4.out.size))
                    go_wp2_with fail
                    refine (HE.out _).mono ?_
                    rintro e w5 ⟨rfl, hb⟩
                    have B5 := Lib.hid (B6.out.trans (hb.mono B6.out.size))
                    go_wp2_with fail
                    go_ret
                    exact ⟨rfl, B5.out⟩
  · have HSG : Hid (∀ w', IntsIn w' ao s → Calls Try.prog 25 #[.slice ao s.length cap, .int .i64 g] w' (IvsAre w' [])) := fun w' hw => by
      have := HS.out g w' hw
      unfold sesL at this
      rwa [if_neg hg] at this
    have hgb : ¬ (1 ≤ g ∧ g ≤ 1099511627776) := fun hh => hg (decide_eq_true hh)
    clear hg HS HLL
    by_cases hg1 : g < 1
    · go_enter Try.func7, Try.ntmps7
      go_wp2_with fail
      refine (HF.out _).mono ?_
      rintro e w0 ⟨rfl, rfl⟩
      go_wp2_with fail
      refine (HSG.out _ H.out).mono ?_
      rintro e w1 ⟨A1, c1, rfl, -, -, hb1⟩
      have B1 := Lib.hid hb1
      clear hb1
      go_wp2_with fail
      refine (HE.out _).mono ?_
      rintro e w5 ⟨rfl, hb⟩
      have B5 := Lib.hid (B1.out.trans (hb.mono B1.out.size))
      go_wp2_with fail
      go_ret
      exact ⟨rfl, B5.out⟩
    · have hg2 : (1099511627776 : Int) < g := by omega
      go_enter Try.func7, Try.ntmps7
      go_wp2_with fail
      refine (HF.out _).mono ?_
      rintro e w0 ⟨rfl, rfl⟩
      go_wp2_with fail
      refine (HSG.out _ H.out).mono ?_
      rintro e w1 ⟨A1, c1, rfl, -, -, hb1⟩
      have B1 := Lib.hid hb1
      clear hb1
      go_wp2_with fail
      refine (HE.out _).mono ?_
      rintro e w5 ⟨rfl, hb⟩
      have B5 := Lib.hid (B1.out.trans (hb.mono B1.out.size))
      go_wp2_with fail
      go_ret
      exact ⟨rfl, B5.out⟩
end Go.Proofs.Ytolkmfpbgheaaaa
