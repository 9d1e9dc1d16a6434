/-
  asofref20.At, walked.
-/
import Derived.Test.YtfnpfkgmacaboaaLF
namespace Go.Proofs.Ytfnpfkgmacaboaa
open Go.ChangeShapes Go.WideShapes Go.ChangeAt Go.RowKit
set_option linter.unusedVariables false
set_option linter.unusedSimpArgs false

set_option maxHeartbeats 8000000 in
set_option maxRecDepth 100000 in
theorem rat_any (l : List Dl) (ao : Option Addr) (cap : Nat) (hl : l.length ≤ 10000000) (t : Int) (w : World) (h : DlsAt w ao l) :
    Calls Try.prog 16 #[.slice ao l.length cap, .int .i64 t] w fun e w' => ∃ v rows, e = .returned v ∧ OwnR w' w.heap.size v rows ∧ rows.length ≤ l.length ∧ IsAt (l.map Dl.kn) t (l.map Dl.kn) (rows.map Rw.key) ∧ Below w.heap.size w w' := by
  have H := Lib.hid h
  have HCount := Lib.hid (fun x w' hb hx => count_any l ao cap (by omega) x t w' (h.kept hb) hx)
  clear h
  go_enter Try.func16, Try.ntmps16
  go_wp2_with fail
  go_loopw [5, 6] (fun v jj wr => ∃ (i : Nat) (r : List Rw) (v0 : Value), v0 = v ∧ i ≤ l.length ∧ jj = .int .i64 i ∧ Hid (OwnR wr w.heap.size v r ∧ r.length ≤ i ∧ IsAt (l.map Dl.kn) t ((l.take i).map Dl.kn) (r.map Rw.key)) ∧ Below w.heap.size w wr) (fun _ jj _ => l.length - (intOf jj).toNat)
  case atStart => exact ⟨0, [], _, rfl, by omega, rfl, ⟨OwnR.nil _ _, Nat.le_refl _, IsAt.nil _ _⟩, Below.refl _ _⟩
  case round =>
    obtain ⟨i, r, v0, rfl, hi, rfl, HR, hB⟩ := hrel
    have HB := Lib.hid hB
    clear hB
    obtain ⟨wo, hwo⟩ : ∃ wo, wo = wr := ⟨_, rfl⟩
    subst hwo
    by_cases hlt : i < l.length
    · obtain ⟨x, hx⟩ : ∃ x, l[i]? = some x := ⟨l[i], List.getElem?_eq_getElem hlt⟩
      obtain ⟨b, off, hao, hrow⟩ := lies_some (H.out.1.kept HB.out) hx
      obtain ⟨y0, y1, y2, y3, y4, y5, y6, y7, y8, y9⟩ := Dl.cell hrow hx
      have HX := Lib.hid hx
      have HXO : Hid (x.Ok w) := H.out.2 x (List.mem_of_getElem? hx)
      obtain ⟨a2, c2, rfl, hrc, hrn, hrd⟩ := HR.out.1.lies
      have HRc := Lib.hid hrc
      have HRn := Lib.hid hrn
      have HRd := Lib.hid hrd
      have HRlen2 : Hid (r.length ≤ i) := HR.out.2.1
      have HRlen : Hid (r.length ≤ 10000000) := Nat.le_trans HR.out.2.1 (by omega)
      have HIS : Hid (IsAt (l.map Dl.kn) t ((l.take i).map Dl.kn) (r.map Rw.key)) := HR.out.2.2
      have HOwn := Lib.hid HR.out.1
      have HCntx : Hid (∀ n, n = cntK (l.map Dl.kn) x.r.key t → ∀ w', Below w.heap.size w w' → Calls Try.prog 34 #[.slice ao l.length cap, x.r.val, .int .i64 t] w' fun e w2 => e = .returned (.int .i64 n) ∧ Below w'.heap.size w' w2) := fun n hn w' hb => by rw [hn]; exact HCount.out x.r w' hb (HXO.out.r.kept hb)
      clear hrow hx hrc hrn hrd HR
      subst hao
      go_upto_region 6 with fail
      refine wp_gen (fun X hX => ?_)
      have HBX : Hid (Below wo.heap.size wo X) := by rw [hX]; exact below_here _
      have HWX : Hid (Below w.heap.size w X) := by rw [hX]; exact HB.out.alloc HB.out.size _
      have HTX : Hid (Box X wo.heap.size #[.string x.r.src, .int .i64 x.r.seq, .string x.r.tb, .string x.r.ky, .int .i64 x.r.ev, .slice x.r.fa x.r.vs.length x.r.fc, .int .i64 x.r.no, .int .i64 x.r.tk] 39) := by rw [hX]; exact Box.new _ _ _
      have HRX : Hid (RowsAt X a2 r) := by rw [hX]; exact HRd.out.kept (below_here _)
      have HWO : Hid (w.heap.size ≤ wo.heap.size) := HB.out.size
      clear hX y0 y1 y2 y3 y4 y5 y6 y7 y8 y9
      obtain ⟨t0, t1, t2, t3, t4, t5, t6, t7⟩ := HTX.out.at8
      obtain ⟨n, hn⟩ : ∃ n, n = cntK (l.map Dl.kn) x.r.key t := ⟨_, rfl⟩
      have HN := Lib.hid hn
      have HC1 := Lib.hid (HCntx.out n hn X HWX.out)
      have HI1 : Hid (∀ w', Below X.heap.size X w' → Calls Try.prog 35 #[.slice a2 r.length c2, x.r.val] w' fun e w2 => e = .returned (.bool (memR r x.r.key)) ∧ Below w'.heap.size w' w2) := fun w' hb => in_any r a2 c2 (by have := HRlen.out; omega) x.r w' (HRX.out.kept hb) ((HXO.out.r.kept HWX.out).kept hb)
      have HTL : Hid (∀ w', Below X.heap.size X w' → w'.cell? ⟨wo.heap.size, 0, none⟩ = some (.string x.r.src) ∧ w'.cell? ⟨wo.heap.size, 1, none⟩ = some (.int .i64 x.r.seq) ∧ w'.cell? ⟨wo.heap.size, 2, none⟩ = some (.string x.r.tb) ∧ w'.cell? ⟨wo.heap.size, 3, none⟩ = some (.string x.r.ky) ∧ w'.cell? ⟨wo.heap.size, 4, none⟩ = some (.int .i64 x.r.ev) ∧ w'.cell? ⟨wo.heap.size, 5, none⟩ = some (.slice x.r.fa x.r.vs.length x.r.fc) ∧ w'.cell? ⟨wo.heap.size, 6, none⟩ = some (.int .i64 x.r.no) ∧ w'.cell? ⟨wo.heap.size, 7, none⟩ = some (.int .i64 x.r.tk)) := fun w' hb => (HTX.out.kept hb).at8
      clear hn HCntx
      by_cases hn0 : n ≤ 0
      · have HSK : Hid (IsAt (l.map Dl.kn) t ((l.take (i + 1)).map Dl.kn) (r.map Rw.key)) := by
          show IsAt _ _ _ _
          rw [take_snoc HX.out, List.map_append, List.map_singleton]
          exact HIS.out.skip (Or.inl (HN.out ▸ hn0))
        go_wp2_with (go_at_call 34; (with_reducible refine HC1.out.mono ?_); rintro e w1 ⟨rfl, hb⟩; have HB1 := Lib.hid hb; clear hb)
        go_roundw
        case rel => exact ⟨i + 1, r, _, rfl, by omega, by go_num, ⟨(HOwn.out.kept HBX.out).kept HB1.out, by have := HRlen2.out; omega, HSK.out⟩, keepB (Nat.le_refl _) HWX.out HB1.out⟩
        case measure => simp [intOf]; omega
      · cases hm : memR r x.r.key
        · rw [hm] at HI1
          have HNI : Hid (x.r.key ∉ r.map Rw.key) := fun e => by rw [memR_iff.2 e] at hm; cases hm
          have HCP : Hid (0 < cntK (l.map Dl.kn) x.r.key t) := by show _ < _; rw [← HN.out]; omega
          clear hm
          generalize hrl : r.length = rl at *
          go_wp2_with (first | (go_at_call 34; (with_reducible refine HC1.out.mono ?_); rintro e w1 ⟨rfl, hb⟩; have HB1 := Lib.hid hb; obtain ⟨d0, d1, d2, d3, d4, d5, d6, d7⟩ := HTL.out w1 hb; clear hb) | (go_at_call 35; (with_reducible refine (HI1.out w1 HB1.out).mono ?_); rintro e w2 ⟨rfl, hb⟩; have HB2 := Lib.hid hb; clear hb))
          subst hrl
          refine wp_gen (fun W2 hW2 => ?_)
          have HBXW : Hid (Below X.heap.size X W2) := by rw [hW2]; exact keepB (Nat.le_refl _) HB1.out HB2.out
          have HW2 : Hid (Below w.heap.size w W2) := keepB (Nat.le_refl _) HWX.out HBXW.out
          have HT2 := Lib.hid (HTX.out.kept HBXW.out)
          have HRr := Lib.hid (HRX.out.kept HBXW.out)
          have HRok : Hid (∀ d ∈ r, d.Ok W2) := HRr.out.2
          have HW2a : Hid (W2.heap.size ≤ W2.heap.size) := Nat.le_refl _
          clear hW2 t0 t1 t2 t3 t4 t5 t6 t7 d0 d1 d2 d3 d4 d5 d6 d7 HC1 HI1 HTL HRX HBX HWX HTX HOwn HRd
          go_loopw [8] (fun v wr => ∃ j : Nat, j ≤ r.length ∧ v = .int .i64 j ∧ Hid (∀ q y, q < j → (r.map Rw.key)[q]? = some y → cmpR y x.r.key < 0) ∧ Below W2.heap.size W2 wr) (fun v _ => r.length - (intOf v).toNat)
          case atStart => exact ⟨0, by omega, rfl, Lib.hid (fun q y hq => by omega), Below.refl _ _⟩
          case round =>
            obtain ⟨j, hj, rfl, hlow, hB⟩ := hrel
            have hrl7 : r.length ≤ 10000000 := HRlen.out
            have HB3 := Lib.hid hB
            clear hB
            by_cases hjl : j < r.length
            · obtain ⟨y, hy⟩ : ∃ y, r[j]? = some y := ⟨r[j], List.getElem?_eq_getElem hjl⟩
              obtain ⟨b3, off3, rfl, hrow3⟩ := lies_some (HRr.out.1.kept HB3.out) hy
              obtain ⟨y0, y1, y2, y3, y4, y5, y6, y7⟩ := Rw.cell hrow3 hy
              obtain ⟨z0, z1, z2, z3, z4, z5, z6, z7⟩ := (HT2.out.kept HB3.out).at8
              have HY := Lib.hid hy
              have HYO : Hid (y.Ok wr) := (HRok.out y (List.mem_of_getElem? hy)).kept HB3.out
              have HXW : Hid (x.r.Ok wr) := (HXO.out.r.kept HW2.out).kept HB3.out
              clear hrow3 hy
              have ws1 : IntKind.i64.wrap (j : Int) = (j : Int) := IntWalk.i64_in _ (by have := HRlen.out; omega)
              go_upto_region 8 with fail
              refine wp_gen (fun V hV => ?_)
              have HBV : Hid (Below W2.heap.size W2 V) := by rw [hV]; exact HB3.out
              have HVV : Hid (wr = V) := hV.symm
              have r0 := fun d os => cell_regrown (w := V) (by rw [hV]; exact y0) d os
              have r1 := fun d os => cell_regrown (w := V) (by rw [hV]; exact y1) d os
              have r2 := fun d os => cell_regrown (w := V) (by rw [hV]; exact y2) d os
              have r3 := fun d os => cell_regrown (w := V) (by rw [hV]; exact y3) d os
              have r4 := fun d os => cell_regrown (w := V) (by rw [hV]; exact y4) d os
              have r5 := fun d os => cell_regrown (w := V) (by rw [hV]; exact y5) d os
              have r6 := fun d os => cell_regrown (w := V) (by rw [hV]; exact y6) d os
              have r7 := fun d os => cell_regrown (w := V) (by rw [hV]; exact y7) d os
              have s0 := fun d os => cell_regrown (w := V) (by rw [hV]; exact z0) d os
              have s1 := fun d os => cell_regrown (w := V) (by rw [hV]; exact z1) d os
              have s2 := fun d os => cell_regrown (w := V) (by rw [hV]; exact z2) d os
              have s3 := fun d os => cell_regrown (w := V) (by rw [hV]; exact z3) d os
              have s4 := fun d os => cell_regrown (w := V) (by rw [hV]; exact z4) d os
              have s5 := fun d os => cell_regrown (w := V) (by rw [hV]; exact z5) d os
              have s6 := fun d os => cell_regrown (w := V) (by rw [hV]; exact z6) d os
              have s7 := fun d os => cell_regrown (w := V) (by rw [hV]; exact z7) d os
              have HC0 := Lib.hid (fun d os => Calls.regrown_of (rfull_any y x.r (Go.Sort.grow (redrawn V d) os) ((HVV.out ▸ HYO.out).kept (below_regrown V d os)) ((HVV.out ▸ HXW.out).kept (below_regrown V d os))))
              generalize hcc : cmpR y.key x.r.key = cc at *
              have HCC := Lib.hid hcc
              clear hV hcc y0 y1 y2 y3 y4 y5 y6 y7 z0 z1 z2 z3 z4 z5 z6 z7 HVV
              refine wp_region_quiet_below (by kernel_rfl) (by kernel_rfl) ?_
              repeat (go_big_quiet_step (first | with_reducible exact HC0.out _ _))
              refine wpQuiet_nil ?_
              intro _ hw'
              obtain ⟨p, hw''⟩ := hw'
              subst hw''
              have HZ := below_regrown V p.d p.os
              clear HC0 r0 r1 r2 r3 r4 r5 r6 r7 s0 s1 s2 s3 s4 s5 s6 s7
              generalize Go.Sort.grow (redrawn V p.d) p.os = V2 at *
              have HBX2 : Hid (Below W2.heap.size W2 V2) := HBV.out.trans (HZ.mono HBV.out.size)
              clear HZ
              have HYK : Hid ((r.map Rw.key)[j]? = some y.key) := by show _ = _; rw [List.getElem?_map, HY.out]; rfl
              by_cases hc : cc < 0
              · have HL : Hid (∀ q z, q < j + 1 → (r.map Rw.key)[q]? = some z → cmpR z x.r.key < 0) := by
                  intro q z hq hz
                  by_cases e : q = j
                  · subst e; rw [HYK.out] at hz; injection hz with hz; subst hz; rw [HCC.out]; exact hc
                  · exact hlow.out q z (by omega) hz
                go_wp2_with fail
                go_roundw
                case rel => exact ⟨j + 1, by omega, by go_num, HL, HBX2.out⟩
                case measure => simp [intOf]; omega
              · have hhi : Hid (∀ z, (r.map Rw.key)[j]? = some z → ¬ cmpR z x.r.key < 0) := by
                  intro z hz
                  rw [HYK.out] at hz; injection hz with hz; subst hz; rw [HCC.out]; exact hc
                generalize (some (⟨b3, off3, none⟩ : Addr)) = a2 at *
                have HBw : Hid (Below w.heap.size w V2) := HW2.out.trans (HBX2.out.mono HW2.out.size)
                obtain ⟨t0, t1, t2, t3, t4, t5, t6, t7⟩ := (HT2.out.kept HBX2.out).at8
                have hcu := fun w => run_upto elR a2 r.length c2 j (by have := HRc.out; omega) w
                obtain ⟨A, hcf, hA1, hA2⟩ := run_from elR a2 r.length c2 j hj
                have HA : Hid (A = none → c2 - j = 0) := fun h => by have := HRn.out (hA1 h); omega
                have HRL : Hid (∀ w', Below W2.heap.size W2 w' → LiesAt Rw.cells 8 w' a2 r) := fun w' hb => HRr.out.1.kept hb
                have HD0 : Hid (r.length - j = (r.drop j).length) := by show _ = _; simp
                have HTL : Hid (j = (r.take j).length) := by show _ = _; simp; omega
                have HS3 : Hid (∀ w', Below W2.heap.size W2 w' → LiesAt Rw.cells 8 w' A (r.drop j)) := fun w' hb => lies_from (HRL.out w' hb) HRc.out hA2
                have HS2 : Hid (∀ w', Below W2.heap.size W2 w' → LiesAt Rw.cells 8 w' a2 (r.take j)) := fun w' hb => (HRL.out w' hb).take j
                have HO1 : Hid (Own Rw.cells 8 39 (V2.alloc (.cells (Rw.cells x.r).toArray 39)).drew W2.heap.size (.slice (some ⟨V2.heap.size, 0, none⟩) 1 1) [x.r]) := Own.lit1 encR HBX2.out.size x.r
                have HX1 : Hid (Below W2.heap.size W2 (V2.alloc (.cells (Rw.cells x.r).toArray 39)).drew) := (HBX2.out.alloc HBX2.out.size _).drew
                have HL1 : Hid ([x.r].length + (r.drop j).length ≤ 1000000000) := by show _ ≤ _; have := HRlen.out; simp; omega
                have HL2 : Hid (([] : List Rw).length + (r.take j).length ≤ 1000000000) := by show _ ≤ _; have := HRlen.out; simp; omega
                obtain ⟨R1, hR1⟩ : ∃ R1, R1 = [x.r] ++ r.drop j := ⟨_, rfl⟩
                have HR1 := Lib.hid hR1
                have HR1l : Hid (R1.length ≤ 100000001 ∧ R1.length + (r.take j).length = r.length + 1) := by refine ⟨?_, ?_⟩ <;> (rw [hR1]; have := HRlen.out; simp; omega)
                have HL3 : Hid (([] ++ r.take j).length + R1.length ≤ 1000000000) := by show _ ≤ _; have := HRlen.out; have := HR1l.out.1; simp; omega
                have HFIN : Hid (([] ++ r.take j ++ R1).map Rw.key = insK (r.map Rw.key) x.r.key) := by show _ = _; rw [insK_at (by simpa using hj) hlow.out (fun y hy => by have := hhi.out y hy; omega), hR1]; simp [List.map_take, List.map_drop]
                have HFI2 : Hid (∀ d ∈ [] ++ r.take j ++ R1, d = x.r ∨ d ∈ r) := by
                  intro d hd
                  rw [hR1] at hd
                  simp only [List.nil_append, List.mem_append, List.mem_singleton] at hd
                  rcases hd with hd | hd | hd
                  · exact Or.inr (List.mem_of_mem_take hd)
                  · exact Or.inl hd
                  · exact Or.inr (List.mem_of_mem_drop hd)
                clear hA1 hA2 hR1 HRr HRL hlow hhi
                generalize r.length - j = q at *
                generalize c2 - j = cq at *
                go_wp2_with fail
                go_region_law (first | (refine step_app elR encR rfl (.tmp 47) (.tmp 50) rfl rfl rfl HO1.out (HS3.out _ HX1.out) HD0.out HA.out HX1.out.size HL1.out ?_; intro v5 w5 ho hb; rw [← HR1.out] at ho; have HX5 := Lib.hid (HX1.out.trans hb); obtain ⟨a5, c5, rfl, -, hr2, hr3⟩ := ho.lies encR; have HA5 := Lib.hid hr2; have HS5 := Lib.hid hr3; clear ho hb hr2 hr3))
                have HO6 : Hid (Own Rw.cells 8 39 (w5.alloc (.cells #[] 39)) w5.heap.size (.slice (some ⟨w5.heap.size, 0, none⟩) 0 0) []) := Own.lit (Nat.le_refl _)
                have HX6 : Hid (Below w5.heap.size w5 (w5.alloc (.cells #[] 39))) := below_here _
                have HX26 : Hid (Below W2.heap.size W2 (w5.alloc (.cells #[] 39))) := HX5.out.alloc HX5.out.size _
                generalize hn5 : R1.length = n5 at *
                have HN5 : Hid (n5 = R1.length) := hn5.symm
                have HL3b : Hid (([] ++ r.take j).length + R1.length ≤ 1000000000) := by show _ ≤ _; rw [← HN5.out]; exact HL3.out
                clear hn5
                go_wp2_with (at_builtin; first | (refine wpList_app elR encR rfl (.tmp 52) (.tmp 55) rfl rfl rfl HO6.out (HS2.out _ HX26.out) HTL.out HRn.out HX6.out.size HL2.out ?_; intro v7 w7 ho hb; have HO7 := Lib.hid ho; have HX7 := Lib.hid (HX6.out.trans hb); have HX75 : Hid (LiesAt Rw.cells 8 w7 a5 R1) := HS5.out.kept (HX6.out.trans hb); clear ho hb) | (refine wpList_app elR encR rfl (.tmp 56) (.tmp 57) rfl rfl rfl HO7.out HX75.out HN5.out HA5.out HX7.out.size HL3b.out ?_; intro v8 w8 ho hb; have HO8 := Lib.hid ho; have HX8 := Lib.hid (HX7.out.trans hb); clear ho hb))
                go_roundw
                case rel =>
                  have HX28 := HX5.out.trans (HX8.out.mono HX5.out.size)
                  have HBF := HW2.out.trans (HX28.mono HW2.out.size)
                  refine ⟨i + 1, _, _, rfl, by omega, by go_num, ⟨⟨HO8.out.mono (Nat.le_trans HW2.out.size HX5.out.size), fun d hd => ?_⟩, ?_, ?_⟩, HBF⟩
                  · rcases HFI2.out d hd with rfl | hd
                    · exact (HXO.out.r).kept HBF
                    · exact (HRok.out d hd).kept HX28
                  · have h1 := HR1l.out.2; have h2 := HRlen2.out; have h3 := HN5.out; simp at h1 ⊢; omega
                  · rw [HFIN.out, take_snoc HX.out, List.map_append, List.map_singleton]; exact HIS.out.put HCP.out HNI.out
                case measure => simp [intOf]; omega
            · have hhi : Hid (∀ z, (r.map Rw.key)[j]? = some z → ¬ cmpR z x.r.key < 0) := by
                intro z hz
                have := (List.getElem?_eq_some_iff.1 hz).1
                simp at this; omega
              go_wp2_with fail
              go_quiet (fail)
              generalize hV2 : wr.drewN nq = V2
              have HBX2 : Hid (Below W2.heap.size W2 V2) := by rw [← hV2]; exact below_drewN HB3.out _
              clear hV2
              have HBw : Hid (Below w.heap.size w V2) := HW2.out.trans (HBX2.out.mono HW2.out.size)
              obtain ⟨t0, t1, t2, t3, t4, t5, t6, t7⟩ := (HT2.out.kept HBX2.out).at8
              have hcu := fun w => run_upto elR a2 r.length c2 j (by have := HRc.out; omega) w
              obtain ⟨A, hcf, hA1, hA2⟩ := run_from elR a2 r.length c2 j hj
              have HA : Hid (A = none → c2 - j = 0) := fun h => by have := HRn.out (hA1 h); omega
              have HRL : Hid (∀ w', Below W2.heap.size W2 w' → LiesAt Rw.cells 8 w' a2 r) := fun w' hb => HRr.out.1.kept hb
              have HD0 : Hid (r.length - j = (r.drop j).length) := by show _ = _; simp
              have HTL : Hid (j = (r.take j).length) := by show _ = _; simp; omega
              have HS3 : Hid (∀ w', Below W2.heap.size W2 w' → LiesAt Rw.cells 8 w' A (r.drop j)) := fun w' hb => lies_from (HRL.out w' hb) HRc.out hA2
              have HS2 : Hid (∀ w', Below W2.heap.size W2 w' → LiesAt Rw.cells 8 w' a2 (r.take j)) := fun w' hb => (HRL.out w' hb).take j
              have HO1 : Hid (Own Rw.cells 8 39 (V2.alloc (.cells (Rw.cells x.r).toArray 39)).drew W2.heap.size (.slice (some ⟨V2.heap.size, 0, none⟩) 1 1) [x.r]) := Own.lit1 encR HBX2.out.size x.r
              have HX1 : Hid (Below W2.heap.size W2 (V2.alloc (.cells (Rw.cells x.r).toArray 39)).drew) := (HBX2.out.alloc HBX2.out.size _).drew
              have HL1 : Hid ([x.r].length + (r.drop j).length ≤ 1000000000) := by show _ ≤ _; have := HRlen.out; simp; omega
              have HL2 : Hid (([] : List Rw).length + (r.take j).length ≤ 1000000000) := by show _ ≤ _; have := HRlen.out; simp; omega
              obtain ⟨R1, hR1⟩ : ∃ R1, R1 = [x.r] ++ r.drop j := ⟨_, rfl⟩
              have HR1 := Lib.hid hR1
              have HR1l : Hid (R1.length ≤ 100000001 ∧ R1.length + (r.take j).length = r.length + 1) := by refine ⟨?_, ?_⟩ <;> (rw [hR1]; have := HRlen.out; simp; omega)
              have HL3 : Hid (([] ++ r.take j).length + R1.length ≤ 1000000000) := by show _ ≤ _; have := HRlen.out; have := HR1l.out.1; simp; omega
              have HFIN : Hid (([] ++ r.take j ++ R1).map Rw.key = insK (r.map Rw.key) x.r.key) := by show _ = _; rw [insK_at (by simpa using hj) hlow.out (fun y hy => by have := hhi.out y hy; omega), hR1]; simp [List.map_take, List.map_drop]
              have HFI2 : Hid (∀ d ∈ [] ++ r.take j ++ R1, d = x.r ∨ d ∈ r) := by
                intro d hd
                rw [hR1] at hd
                simp only [List.nil_append, List.mem_append, List.mem_singleton] at hd
                rcases hd with hd | hd | hd
                · exact Or.inr (List.mem_of_mem_take hd)
                · exact Or.inl hd
                · exact Or.inr (List.mem_of_mem_drop hd)
              clear hA1 hA2 hR1 HRr HRL hlow hhi
              generalize r.length - j = q at *
              generalize c2 - j = cq at *
              go_wp2_with fail
              go_region_law (first | (refine step_app elR encR rfl (.tmp 47) (.tmp 50) rfl rfl rfl HO1.out (HS3.out _ HX1.out) HD0.out HA.out HX1.out.size HL1.out ?_; intro v5 w5 ho hb; rw [← HR1.out] at ho; have HX5 := Lib.hid (HX1.out.trans hb); obtain ⟨a5, c5, rfl, -, hr2, hr3⟩ := ho.lies encR; have HA5 := Lib.hid hr2; have HS5 := Lib.hid hr3; clear ho hb hr2 hr3))
              have HO6 : Hid (Own Rw.cells 8 39 (w5.alloc (.cells #[] 39)) w5.heap.size (.slice (some ⟨w5.heap.size, 0, none⟩) 0 0) []) := Own.lit (Nat.le_refl _)
              have HX6 : Hid (Below w5.heap.size w5 (w5.alloc (.cells #[] 39))) := below_here _
              have HX26 : Hid (Below W2.heap.size W2 (w5.alloc (.cells #[] 39))) := HX5.out.alloc HX5.out.size _
              generalize hn5 : R1.length = n5 at *
              have HN5 : Hid (n5 = R1.length) := hn5.symm
              have HL3b : Hid (([] ++ r.take j).length + R1.length ≤ 1000000000) := by show _ ≤ _; rw [← HN5.out]; exact HL3.out
              clear hn5
              go_wp2_with (at_builtin; first | (refine wpList_app elR encR rfl (.tmp 52) (.tmp 55) rfl rfl rfl HO6.out (HS2.out _ HX26.out) HTL.out HRn.out HX6.out.size HL2.out ?_; intro v7 w7 ho hb; have HO7 := Lib.hid ho; have HX7 := Lib.hid (HX6.out.trans hb); have HX75 : Hid (LiesAt Rw.cells 8 w7 a5 R1) := HS5.out.kept (HX6.out.trans hb); clear ho hb) | (refine wpList_app elR encR rfl (.tmp 56) (.tmp 57) rfl rfl rfl HO7.out HX75.out HN5.out HA5.out HX7.out.size HL3b.out ?_; intro v8 w8 ho hb; have HO8 := Lib.hid ho; have HX8 := Lib.hid (HX7.out.trans hb); clear ho hb))
              go_roundw
              case rel =>
                have HX28 := HX5.out.trans (HX8.out.mono HX5.out.size)
                have HBF := HW2.out.trans (HX28.mono HW2.out.size)
                refine ⟨i + 1, _, _, rfl, by omega, by go_num, ⟨⟨HO8.out.mono (Nat.le_trans HW2.out.size HX5.out.size), fun d hd => ?_⟩, ?_, ?_⟩, HBF⟩
                · rcases HFI2.out d hd with rfl | hd
                  · exact (HXO.out.r).kept HBF
                  · exact (HRok.out d hd).kept HX28
                · have h1 := HR1l.out.2; have h2 := HRlen2.out; have h3 := HN5.out; simp at h1 ⊢; omega
                · rw [HFIN.out, take_snoc HX.out, List.map_append, List.map_singleton]; exact HIS.out.put HCP.out HNI.out
              case measure => simp [intOf]; omega
        · rw [hm] at HI1
          have HSK : Hid (IsAt (l.map Dl.kn) t ((l.take (i + 1)).map Dl.kn) (r.map Rw.key)) := by
            show IsAt _ _ _ _
            rw [take_snoc HX.out, List.map_append, List.map_singleton]
            exact HIS.out.skip (Or.inr (memR_iff.1 hm))
          clear hm
          go_wp2_with (first | (go_at_call 34; (with_reducible refine HC1.out.mono ?_); rintro e w1 ⟨rfl, hb⟩; have HB1 := Lib.hid hb; obtain ⟨d0, d1, d2, d3, d4, d5, d6, d7⟩ := HTL.out w1 hb; clear hb) | (go_at_call 35; (with_reducible refine (HI1.out w1 HB1.out).mono ?_); rintro e w2 ⟨rfl, hb⟩; have HB2 := Lib.hid hb; clear hb))
          go_roundw
          case rel => exact ⟨i + 1, r, _, rfl, by omega, by go_num, ⟨((HOwn.out.kept HBX.out).kept HB1.out).kept HB2.out, by have := HRlen2.out; omega, HSK.out⟩, keepB (Nat.le_refl _) (keepB (Nat.le_refl _) HWX.out HB1.out) HB2.out⟩
          case measure => simp [intOf]; omega
    · obtain rfl : i = l.length := by omega
      have HF := HR.out
      rw [List.take_length] at HF
      have HFF := Lib.hid HF
      clear HF
      go_wp2_with fail
      go_ret
      exact ⟨_, r, rfl, HFF.out.1, HFF.out.2.1, HFF.out.2.2, HB.out⟩
end Go.Proofs.Ytfnpfkgmacaboaa
