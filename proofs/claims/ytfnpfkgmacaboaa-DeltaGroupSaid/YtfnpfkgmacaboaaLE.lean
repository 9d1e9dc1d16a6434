/-
  asofref20.In, Count.
-/
import Derived.Test.YtfnpfkgmacaboaaLD
namespace Go.Proofs.Ytfnpfkgmacaboaa
open Go.ChangeShapes Go.WideShapes Go.ChangeAt Go.RowKit
set_option linter.unusedVariables false
set_option linter.unusedSimpArgs false

/-- Is a row an element of a list? -/
def memR (l : List Rw) (k : RK) : Bool := l.any (fun r => decide (r.key = k))
theorem memR_iff {l : List Rw} {k : RK} : memR l k = true ↔ k ∈ l.map Rw.key := by
  unfold memR
  rw [List.any_eq_true, List.mem_map]
  exact ⟨fun ⟨r, h1, h2⟩ => ⟨r, h1, of_decide_eq_true h2⟩, fun ⟨r, h1, h2⟩ => ⟨r, h1, decide_eq_true h2⟩⟩
theorem memR_snoc (l : List Rw) (x : Rw) (k : RK) : memR (l ++ [x]) k = (memR l k || decide (x.key = k)) := by unfold memR; rw [List.any_append]; simp
theorem Box.at8 {w : World} {g : Nat} {t : TypeId} {a0 a1 a2 a3 a4 a5 a6 a7 : Value} (h : Box w g #[a0, a1, a2, a3, a4, a5, a6, a7] t) : w.cell? ⟨g, 0, none⟩ = some a0 ∧ w.cell? ⟨g, 1, none⟩ = some a1 ∧ w.cell? ⟨g, 2, none⟩ = some a2 ∧ w.cell? ⟨g, 3, none⟩ = some a3 ∧ w.cell? ⟨g, 4, none⟩ = some a4 ∧ w.cell? ⟨g, 5, none⟩ = some a5 ∧ w.cell? ⟨g, 6, none⟩ = some a6 ∧ w.cell? ⟨g, 7, none⟩ = some a7 :=
  ⟨h.cell 0 _ rfl, h.cell 1 _ rfl, h.cell 2 _ rfl, h.cell 3 _ rfl, h.cell 4 _ rfl, h.cell 5 _ rfl, h.cell 6 _ rfl, h.cell 7 _ rfl⟩
set_option maxHeartbeats 2000000 in
set_option maxRecDepth 100000 in
theorem in_any (l : List Rw) (ao : Option Addr) (cap : Nat) (hl : l.length ≤ 4611686018427387904) (x : Rw) (w : World) (h : RowsAt w ao l) (hx : x.Ok w) :
    Calls Try.prog 35 #[.slice ao l.length cap, x.val] w fun e w' => e = .returned (.bool (memR l x.key)) ∧ Below w.heap.size w w' := by
  have H := Lib.hid h
  have HXO := Lib.hid hx
  clear h hx
  dsimp only [Rw.val]
  go_enter Try.func35, Try.ntmps35
  go_wp2_with fail
  refine wp_gen (fun W hW => ?_)
  have HW : Hid (Below w.heap.size w W) := by rw [hW]; exact below_here _
  have HT : Hid (Box W w.heap.size #[.string x.src, .int .i64 x.seq, .string x.tb, .string x.ky, .int .i64 x.ev, .slice x.fa x.vs.length x.fc, .int .i64 x.no, .int .i64 x.tk] 39) := by rw [hW]; exact Box.new _ _ _
  clear hW
  go_loopw [5] (fun v wr => ∃ i : Nat, i ≤ l.length ∧ v = .int .i64 i ∧ Hid (memR (l.take i) x.key = false) ∧ Below W.heap.size W wr) (fun v _ => l.length - (intOf v).toNat)
  case atStart => exact ⟨0, by omega, rfl, Lib.hid rfl, Below.refl _ _⟩
  case round =>
    obtain ⟨i, hi, rfl, HN, hB⟩ := hrel
    have HB := Lib.hid hB
    have HBw := Lib.hid (HW.out.trans (hB.mono HW.out.size))
    clear hB
    by_cases hlt : i < l.length
    · obtain ⟨y, hy⟩ : ∃ y, l[i]? = some y := ⟨l[i], List.getElem?_eq_getElem hlt⟩
      obtain ⟨b, off, rfl, hrow⟩ := lies_some (H.out.1.kept HBw.out) hy
      obtain ⟨y0, y1, y2, y3, y4, y5, y6, y7⟩ := Rw.cell hrow hy
      have HYO : Hid (y.Ok wr) := (H.out.2 y (List.mem_of_getElem? hy)).kept HBw.out
      have HXW : Hid (x.Ok wr) := HXO.out.kept HBw.out
      have HY := Lib.hid hy
      obtain ⟨z0, z1, z2, z3, z4, z5, z6, z7⟩ := (HT.out.kept HB.out).at8
      clear hrow hy
      have ws1 : IntKind.i64.wrap (i : Int) = (i : Int) := IntWalk.i64_in _ (by omega)
      go_upto_region 4 with fail
      refine wp_gen (fun V hV => ?_)
      have HBV : Hid (Below W.heap.size W V) := by rw [hV]; exact HB.out
      have HVV : Hid (wr = V) := hV.symm
      have r0 := fun d os => cell_regrown (w := V) (by rw [hV]; exact y0) d os
      have r1 := fun d os => cell_regrown (w := V) (by rw [hV]; exact y1) d os
      have r2 := fun d os => cell_regrown (w := V) (by rw [hV]; exact y2) d os
      have r3 := fun d os => cell_regrown (w := V) (by rw [hV]; exact y3) d os
      have r4 := fun d os => cell_regrown (w := V) (by rw [hV]; exact y4) d os
      have r5 := fun d os => cell_regrown (w := V) (by rw [hV]; exact y5) d os
      have r6 := fun d os => cell_regrown (w := V) (by rw [hV]; exact y6) d os
      have r7 := fun d os => cell_regrown (w := V) (by rw [hV]; exact y7) d os
      have s0 := fun d os => cell_regrown (w := V) (by rw [hV]; exact z0) d os
      have s1 := fun d os => cell_regrown (w := V) (by rw [hV]; exact z1) d os
      have s2 := fun d os => cell_regrown (w := V) (by rw [hV]; exact z2) d os
      have s3 := fun d os => cell_regrown (w := V) (by rw [hV]; exact z3) d os
      have s4 := fun d os => cell_regrown (w := V) (by rw [hV]; exact z4) d os
      have s5 := fun d os => cell_regrown (w := V) (by rw [hV]; exact z5) d os
      have s6 := fun d os => cell_regrown (w := V) (by rw [hV]; exact z6) d os
      have s7 := fun d os => cell_regrown (w := V) (by rw [hV]; exact z7) d os
      have HC0 := Lib.hid (fun d os => Calls.regrown_of (rfull_any y x (Go.Sort.grow (redrawn V d) os) ((HVV.out ▸ HYO.out).kept (below_regrown V d os)) ((HVV.out ▸ HXW.out).kept (below_regrown V d os))))
      generalize hcc : cmpR y.key x.key = c at *
      have HCC := Lib.hid hcc
      clear hV hcc y0 y1 y2 y3 y4 y5 y6 y7 z0 z1 z2 z3 z4 z5 z6 z7 HVV
      refine wp_region_quiet_below (by kernel_rfl) (by kernel_rfl) ?_
      repeat (go_big_quiet_step (first | with_reducible exact HC0.out _ _))
      refine wpQuiet_nil ?_
      intro _ hw'
      obtain ⟨p, hw''⟩ := hw'
      subst hw''
      have HZ := below_regrown V p.d p.os
      clear HC0 r0 r1 r2 r3 r4 r5 r6 r7 s0 s1 s2 s3 s4 s5 s6 s7
      generalize Go.Sort.grow (redrawn V p.d) p.os = V2 at *
      have HB2 : Hid (Below W.heap.size W V2) := HBV.out.trans (HZ.mono HBV.out.size)
      clear HZ
      by_cases hc : c = 0
      · subst hc
        have HR : Hid (memR l x.key = true) := memR_iff.2 ((cmpR_cmp.zero _ _).1 HCC.out ▸ List.mem_map_of_mem (List.mem_of_getElem? HY.out))
        go_wp2_with fail
        go_ret
        exact ⟨by rw [HR.out]; rfl, HW.out.trans (HB2.out.mono HW.out.size)⟩
      · have hne : (c == 0) = false := by simpa using hc
        have HR : Hid (memR (l.take (i + 1)) x.key = false) := by
          show _ = _
          rw [take_snoc HY.out, memR_snoc, HN.out, decide_eq_false (fun e => hc (HCC.out ▸ (cmpR_cmp.zero _ _).2 e))]; rfl
        go_wp2_with fail
        go_roundw
        case rel => exact ⟨i + 1, by omega, by go_num, HR, HB2.out⟩
        case measure => simp [intOf]; omega
    · obtain rfl : i = l.length := by omega
      have HR : Hid (memR l x.key = false) := by have := HN.out; rwa [List.take_length] at this
      go_wp2_with fail
      go_ret
      exact ⟨by rw [HR.out]; rfl, HBw.out⟩
/-- The count of a row at a tick. -/
def cntK (L : List (DK × Int)) (k : RK) (t : Int) : Int := L.foldl (fun s x => if x.1.1 ≤ t ∧ x.1.2 = k then IntKind.i64.wrap (s + x.2) else s) 0
theorem cntK_snoc (L : List (DK × Int)) (x : DK × Int) (k : RK) (t : Int) : cntK (L ++ [x]) k t = if x.1.1 ≤ t ∧ x.1.2 = k then IntKind.i64.wrap (cntK L k t + x.2) else cntK L k t := by unfold cntK; rw [List.foldl_append]; rfl
set_option maxHeartbeats 2000000 in
set_option maxRecDepth 100000 in
theorem count_any (l : List Dl) (ao : Option Addr) (cap : Nat) (hl : l.length ≤ 4611686018427387904) (x : Rw) (t : Int) (w : World) (h : DlsAt w ao l) (hx : x.Ok w) :
    Calls Try.prog 34 #[.slice ao l.length cap, x.val, .int .i64 t] w fun e w' => e = .returned (.int .i64 (cntK (l.map Dl.kn) x.key t)) ∧ Below w.heap.size w w' := by
  have H := Lib.hid h
  have HXO := Lib.hid hx
  clear h hx
  dsimp only [Rw.val]
  go_enter Try.func34, Try.ntmps34
  go_wp2_with fail
  refine wp_gen (fun W hW => ?_)
  have HW : Hid (Below w.heap.size w W) := by rw [hW]; exact below_here _
  have HT : Hid (Box W w.heap.size #[.string x.src, .int .i64 x.seq, .string x.tb, .string x.ky, .int .i64 x.ev, .slice x.fa x.vs.length x.fc, .int .i64 x.no, .int .i64 x.tk] 39) := by rw [hW]; exact Box.new _ _ _
  clear hW
  go_loopw [7, 8] (fun s v wr => ∃ (i : Nat) (n : Int), i ≤ l.length ∧ s = .int .i64 n ∧ v = .int .i64 i ∧ Hid (n = cntK ((l.take i).map Dl.kn) x.key t) ∧ Below W.heap.size W wr) (fun _ v _ => l.length - (intOf v).toNat)
  case atStart => exact ⟨0, 0, by omega, rfl, rfl, Lib.hid rfl, Below.refl _ _⟩
  case round =>
    obtain ⟨i, n, hi, rfl, rfl, HN, hB⟩ := hrel
    have HB := Lib.hid hB
    have HBw := Lib.hid (HW.out.trans (hB.mono HW.out.size))
    clear hB
    by_cases hlt : i < l.length
    · obtain ⟨y, hy⟩ : ∃ y, l[i]? = some y := ⟨l[i], List.getElem?_eq_getElem hlt⟩
      obtain ⟨b, off, rfl, hrow⟩ := lies_some (H.out.1.kept HBw.out) hy
      obtain ⟨y0, y1, y2, y3, y4, y5, y6, y7, y8, y9⟩ := Dl.cell hrow hy
      have HYO : Hid (y.Ok wr) := (H.out.2 y (List.mem_of_getElem? hy)).kept HBw.out
      have HXW : Hid (x.Ok wr) := HXO.out.kept HBw.out
      have HY := Lib.hid hy
      have HS : Hid (cntK ((l.take (i + 1)).map Dl.kn) x.key t = if y.tick ≤ t ∧ y.r.key = x.key then IntKind.i64.wrap (n + y.n) else n) := by
        show _ = _
        rw [take_snoc HY.out, List.map_append, List.map_singleton, cntK_snoc, ← HN.out]; rfl
      obtain ⟨z0, z1, z2, z3, z4, z5, z6, z7⟩ := (HT.out.kept HB.out).at8
      clear hrow hy
      have HWr : Hid (wrap64 (n + y.n) = IntKind.i64.wrap (n + y.n)) := wrap64_is _
      have ws1 : IntKind.i64.wrap (i : Int) = (i : Int) := IntWalk.i64_in _ (by omega)
      go_upto_region 5 with fail
      refine wp_gen (fun V hV => ?_)
      have HBV : Hid (Below W.heap.size W V) := by rw [hV]; exact HB.out
      have HVV : Hid (wr = V) := hV.symm
      have r0 := fun d os => cell_regrown (w := V) (by rw [hV]; exact y0) d os
      have r1 := fun d os => cell_regrown (w := V) (by rw [hV]; exact y1) d os
      have r2 := fun d os => cell_regrown (w := V) (by rw [hV]; exact y2) d os
      have r3 := fun d os => cell_regrown (w := V) (by rw [hV]; exact y3) d os
      have r4 := fun d os => cell_regrown (w := V) (by rw [hV]; exact y4) d os
      have r5 := fun d os => cell_regrown (w := V) (by rw [hV]; exact y5) d os
      have r6 := fun d os => cell_regrown (w := V) (by rw [hV]; exact y6) d os
      have r7 := fun d os => cell_regrown (w := V) (by rw [hV]; exact y7) d os
      have r8 := fun d os => cell_regrown (w := V) (by rw [hV]; exact y8) d os
      have r9 := fun d os => cell_regrown (w := V) (by rw [hV]; exact y9) d os
      have s0 := fun d os => cell_regrown (w := V) (by rw [hV]; exact z0) d os
      have s1 := fun d os => cell_regrown (w := V) (by rw [hV]; exact z1) d os
      have s2 := fun d os => cell_regrown (w := V) (by rw [hV]; exact z2) d os
      have s3 := fun d os => cell_regrown (w := V) (by rw [hV]; exact z3) d os
      have s4 := fun d os => cell_regrown (w := V) (by rw [hV]; exact z4) d os
      have s5 := fun d os => cell_regrown (w := V) (by rw [hV]; exact z5) d os
      have s6 := fun d os => cell_regrown (w := V) (by rw [hV]; exact z6) d os
      have s7 := fun d os => cell_regrown (w := V) (by rw [hV]; exact z7) d os
      have HC0 := Lib.hid (fun d os => Calls.regrown_of (rfull_any y.r x (Go.Sort.grow (redrawn V d) os) ((HVV.out ▸ HYO.out.r).kept (below_regrown V d os)) ((HVV.out ▸ HXW.out).kept (below_regrown V d os))))
      generalize hcc : cmpR y.r.key x.key = c at *
      have HCC := Lib.hid hcc
      have HY9 : Hid (V.cell? ⟨b, off + i * 10 + 9, none⟩ = some (.int .i64 y.n)) := by rw [hV]; exact y9
      clear hV hcc y0 y1 y2 y3 y4 y5 y6 y7 y8 y9 z0 z1 z2 z3 z4 z5 z6 z7 HVV
      by_cases htk : y.tick ≤ t
      · have HTk := Lib.hid htk
        refine wp_region_quiet_below (by kernel_rfl) (by kernel_rfl) ?_
        repeat (go_big_quiet_step (first | with_reducible exact HC0.out _ _))
        refine wpQuiet_nil ?_
        intro _ hw'
        obtain ⟨p, hw''⟩ := hw'
        subst hw''
        have HZ := below_regrown V p.d p.os
        have y9 := r9 p.d p.os
        clear HC0 r0 r1 r2 r3 r4 r5 r6 r7 r8 r9 s0 s1 s2 s3 s4 s5 s6 s7 htk
        generalize Go.Sort.grow (redrawn V p.d) p.os = V2 at *
        have HB2 : Hid (Below W.heap.size W V2) := HBV.out.trans (HZ.mono HBV.out.size)
        clear HZ
        by_cases hc : c = 0
        · subst hc
          have HR : Hid (cntK ((l.take (i + 1)).map Dl.kn) x.key t = wrap64 (n + y.n)) := by
            show _ = _
            rw [HS.out, if_pos ⟨HTk.out, (cmpR_cmp.zero _ _).1 HCC.out⟩, HWr.out]
          go_wp2_with fail
          go_roundw
          case rel => exact ⟨i + 1, _, by omega, rfl, by go_num, HR.out.symm, HB2.out⟩
          case measure => simp [intOf]; omega
        · have hne : (c == 0) = false := by simpa using hc
          have HR : Hid (cntK ((l.take (i + 1)).map Dl.kn) x.key t = n) := by
            show _ = _
            rw [HS.out, if_neg (fun e => hc (HCC.out ▸ (cmpR_cmp.zero _ _).2 e.2))]
          clear hc y9
          go_wp2_with fail
          go_roundw
          case rel => exact ⟨i + 1, _, by omega, rfl, by go_num, HR.out.symm, HB2.out⟩
          case measure => simp [intOf]; omega
      · have HR : Hid (cntK ((l.take (i + 1)).map Dl.kn) x.key t = n) := by
          show _ = _
          rw [HS.out, if_neg (fun e => htk e.1)]
        refine wp_region_quiet_below (by kernel_rfl) (by kernel_rfl) ?_
        repeat (go_big_quiet_step (fail))
        refine wpQuiet_nil ?_
        intro _ hw'
        obtain ⟨p, hw''⟩ := hw'
        subst hw''
        have HZ := below_regrown V p.d p.os
        clear HC0 r0 r1 r2 r3 r4 r5 r6 r7 r8 r9 s0 s1 s2 s3 s4 s5 s6 s7 htk
        generalize Go.Sort.grow (redrawn V p.d) p.os = V2 at *
        have HB2 : Hid (Below W.heap.size W V2) := HBV.out.trans (HZ.mono HBV.out.size)
        clear HZ
        go_wp2_with fail
        go_roundw
        case rel => exact ⟨i + 1, _, by omega, rfl, by go_num, HR.out.symm, HB2.out⟩
        case measure => simp [intOf]; omega
    · obtain rfl : i = l.length := by omega
      have HR : Hid (n = cntK (l.map Dl.kn) x.key t) := by have := HN.out; rwa [List.take_length] at this
      go_wp2_with fail
      go_ret
      exact ⟨by rw [← HR.out]; rfl, HBw.out⟩
end Go.Proofs.Ytfnpfkgmacaboaa
