/-
  The program's comparison of rows by event, of values, of lists of values, of whole rows, of differences.
-/
import Derived.Test.YtfnpfkgmacaboaaPA
namespace Go.Proofs.Ytfnpfkgmacaboaa
open Go.ChangeShapes Go.WideShapes Go.ChangeAt Go.RowKit
set_option linter.unusedVariables false
set_option linter.unusedSimpArgs false

set_option maxHeartbeats 2000000 in
set_option maxRecDepth 100000 in
theorem frow_any (r s : Rw) (w : World) : Calls Try.prog 49 #[r.val, s.val] w fun e w' => e = .returned (.int .i64 (orI (cmpI r.ev s.ev) (cmpID (r.src, r.seq) (s.src, s.seq)))) ∧ Grew w w' := by
  have C0 := Lib.hid (fun w => compare_any r.ev s.ev w)
  have C1 := Lib.hid (fun w => fid_any r.src s.src r.seq s.seq w)
  have HD : Hid (orI (cmpI r.ev s.ev) (cmpID (r.src, r.seq) (s.src, s.seq)) = orL [cmpI r.ev s.ev, cmpID (r.src, r.seq) (s.src, s.seq)]) := by show _ = _; rw [orL_two]
  rw [HD.out]
  generalize cmpI r.ev s.ev = c0 at *
  generalize cmpID (r.src, r.seq) (s.src, s.seq) = c1 at *
  have HOr := Lib.hid (fun V => or2_any V c0 c1)
  generalize orL [c0, c1] = q at *
  clear HD
  dsimp only [Rw.val]
  go_enter Try.func49, Try.ntmps49
  go_upto_region 1 with fail
  refine wp_gen (fun V hV => ?_)
  have HGV : Hid (Grew w V) := by rw [hV]; exact Grew.two _ _
  have B0 : Hid (Box V w.heap.size #[.string r.src, .int .i64 r.seq, .string r.tb, .string r.ky, .int .i64 r.ev, .slice r.fa r.vs.length r.fc, .int .i64 r.no, .int .i64 r.tk] 39) := by rw [hV]; exact (Box.new w _ _).kept (below_here _)
  have B1 : Hid (Box V (w.heap.size + 1) #[.string s.src, .int .i64 s.seq, .string s.tb, .string s.ky, .int .i64 s.ev, .slice s.fa s.vs.length s.fc, .int .i64 s.no, .int .i64 s.tk] 39) := by rw [hV]; show Box _ _ _ _; have := Box.new (w.alloc (.cells #[.string r.src, .int .i64 r.seq, .string r.tb, .string r.ky, .int .i64 r.ev, .slice r.fa r.vs.length r.fc, .int .i64 r.no, .int .i64 r.tk] 39)) #[.string s.src, .int .i64 s.seq, .string s.tb, .string s.ky, .int .i64 s.ev, .slice s.fa s.vs.length s.fc, .int .i64 s.no, .int .i64 s.tk] 39; simpa using this
  obtain ⟨a0, a1, a2, a3, a4, a5, a6, a7⟩ := B0.out.grown8
  obtain ⟨b0, b1, b2, b3, b4, b5, b6, b7⟩ := B1.out.grown8
  clear hV B0 B1
  refine wp_region_grown_tail 10 (by kernel_rfl) (by kernel_rfl) ?_
  simp only [List.take_succ_cons, List.take_zero, List.drop_succ_cons, List.drop_zero]
  repeat (go_big_quiet_step (first | with_reducible exact Calls.grewn_same (C0.out _) | with_reducible exact Calls.grewn (C1.out _)))
  refine wpQuiet_nil ?_
  intro _ hw'
  obtain ⟨p, hw''⟩ := hw'
  subst hw''
  have HZ := Lib.hid (Grew.of_ex V p.n p.os)
  clear a0 a1 a2 a3 a4 a5 a6 a7 b0 b1 b2 b3 b4 b5 b6 b7 C0 C1
  generalize Go.Sort.grow (V.drewN p.n) p.os = V2 at *
  go_wp2_with (go_at_call 30; (with_reducible refine (HOr.out _).mono ?_); rintro e w1 ⟨rfl, rfl⟩)
  go_ret
  exact ⟨rfl, (HGV.out.trans HZ.out).alloc _⟩
set_option maxHeartbeats 2000000 in
set_option maxRecDepth 100000 in
theorem fval_any (x y : Val) (w : World) : Calls Try.prog 52 #[.agg #[.int .i64 x.1, .int .i64 x.2.1, .string x.2.2], .agg #[.int .i64 y.1, .int .i64 y.2.1, .string y.2.2]] w fun e w' => e = .returned (.int .i64 (cmpV x y)) ∧ Grew w w' := by
  have C0 := Lib.hid (fun w => compare_any x.1 y.1 w)
  have C1 := Lib.hid (fun w => compare_any x.2.1 y.2.1 w)
  have C2 := Lib.hid (fun w => strings_any x.2.2 y.2.2 w)
  have HD : Hid (cmpV x y = orL [cmpI x.1 y.1, cmpI x.2.1 y.2.1, cmpS x.2.2 y.2.2]) := by show _ = _; rw [orL_three]; rfl
  rw [HD.out]
  obtain ⟨x0, x1, x2⟩ := x
  obtain ⟨y0, y1, y2⟩ := y
  simp only at C0 C1 C2 HD ⊢
  generalize cmpI x0 y0 = c0 at *
  generalize cmpI x1 y1 = c1 at *
  generalize cmpS x2 y2 = c2 at *
  have HOr := Lib.hid (fun V => or3_any V c0 c1 c2)
  generalize orL [c0, c1, c2] = q at *
  clear HD
  go_enter Try.func52, Try.ntmps52
  go_upto_region 1 with fail
  refine wp_gen (fun V hV => ?_)
  have HGV : Hid (Grew w V) := by rw [hV]; exact Grew.two _ _
  have B0 : Hid (Box V w.heap.size #[.int .i64 x0, .int .i64 x1, .string x2] 59) := by rw [hV]; exact (Box.new w _ _).kept (below_here _)
  have B1 : Hid (Box V (w.heap.size + 1) #[.int .i64 y0, .int .i64 y1, .string y2] 59) := by rw [hV]; show Box _ _ _ _; have := Box.new (w.alloc (.cells #[.int .i64 x0, .int .i64 x1, .string x2] 59)) #[.int .i64 y0, .int .i64 y1, .string y2] 59; simpa using this
  obtain ⟨a0, a1, a2⟩ := B0.out.grown3
  obtain ⟨b0, b1, b2⟩ := B1.out.grown3
  clear hV B0 B1
  refine wp_region_grown_tail 15 (by kernel_rfl) (by kernel_rfl) ?_
  simp only [List.take_succ_cons, List.take_zero, List.drop_succ_cons, List.drop_zero]
  repeat (go_big_quiet_step (first | with_reducible exact Calls.grewn_same (C0.out _) | with_reducible exact Calls.grewn_same (C1.out _) | with_reducible exact Calls.grewn_same (C2.out _)))
  refine wpQuiet_nil ?_
  intro _ hw'
  obtain ⟨p, hw''⟩ := hw'
  subst hw''
  have HZ := Lib.hid (Grew.of_ex V p.n p.os)
  clear a0 a1 a2 b0 b1 b2 C0 C1 C2
  generalize Go.Sort.grow (V.drewN p.n) p.os = V2 at *
  go_wp2_with (go_at_call 30; (with_reducible refine (HOr.out _).mono ?_); rintro e w1 ⟨rfl, rfl⟩)
  go_ret
  exact ⟨rfl, (HGV.out.trans HZ.out).alloc _⟩
set_option maxHeartbeats 2000000 in
set_option maxRecDepth 100000 in
theorem fvals_any (l k : List Val) (a1 a2 : Option Addr) (c1 c2 : Nat) (hl : l.length ≤ 4611686018427387904) (hk : k.length ≤ 4611686018427387904) (w : World) (h : LiesAt valC 3 w a1 l) (h2 : LiesAt valC 3 w a2 k) :
    Calls Try.prog 51 #[.slice a1 l.length c1, .slice a2 k.length c2, .func (.func 52) #[] #[]] w fun e w' => e = .returned (.int .i64 (cmpL cmpV l k)) ∧ Grew w w' := by
  have H := Lib.hid h
  have H2 := Lib.hid h2
  clear h h2
  have eg : ∀ args w, (callFunc 52 args).run Try.prog w = .ok (.enter 52 args) w := Go.Proofs.enters_of Try.func52 (by kernel_rfl) rfl
  go_enter Try.func51, Try.ntmps51
  go_wp2_with fail
  go_loopw [13] (fun v wr => ∃ i : Nat, i ≤ l.length ∧ i ≤ k.length ∧ v = .int .i64 i ∧ Hid (cmpL cmpV l k = cmpL cmpV (l.drop i) (k.drop i)) ∧ Grew w wr) (fun v _ => l.length - (intOf v).toNat)
  case atStart => exact ⟨0, by omega, by omega, rfl, Lib.hid rfl, Grew.refl _⟩
  case round =>
    obtain ⟨i, hi1, hi2, rfl, HE, hB⟩ := hrel
    have HB := Lib.hid hB
    clear hB
    by_cases hlt1 : i < l.length
    · obtain ⟨x, hx⟩ : ∃ x, l[i]? = some x := ⟨l[i], List.getElem?_eq_getElem hlt1⟩
      obtain ⟨b, off, rfl, hL⟩ := (H.out.kept HB.out.below).some (by omega)
      obtain ⟨y0, y1, y2⟩ := val_cell hL hx
      by_cases hlt2 : i < k.length
      · obtain ⟨y, hy⟩ : ∃ y, k[i]? = some y := ⟨k[i], List.getElem?_eq_getElem hlt2⟩
        obtain ⟨b2, off2, rfl, hL2⟩ := (H2.out.kept HB.out.below).some (by omega)
        obtain ⟨z0, z1, z2⟩ := val_cell hL2 hy
        have hn := cmpL_step cmpV l k i x y hx hy
        have HC0 := Lib.hid (fun w => fval_any x y w)
        generalize cmpV x y = c at *
        have HN := Lib.hid (HE.out.trans hn)
        have k0 := fun o => cell_kept z0 (below_here o)
        have k1 := fun o => cell_kept z1 (below_here o)
        have k2 := fun o => cell_kept z2 (below_here o)
        clear hx hy hL hL2 HE hn
        obtain ⟨x1, x2, x3⟩ := x
        obtain ⟨v1, v2, v3⟩ := y
        simp only at y0 y1 y2 z0 z1 z2 k0 k1 k2
        by_cases hc : c = 0
        · subst hc
          have HN2 : Hid (cmpL cmpV l k = cmpL cmpV (l.drop (i + 1)) (k.drop (i + 1))) := HN.out.trans (orI_then _)
          go_wp2_with (go_at_call 52; (with_reducible refine (HC0.out _).mono ?_); rintro e w1 ⟨rfl, hb⟩; have HB1 := Lib.hid hb; clear hb)
          go_roundw
          case rel => exact ⟨i + 1, by omega, by omega, by go_num, HN2, (HB.out.trans (Grew.two _ _)).trans HB1.out⟩
          case measure => simp [intOf]; omega
        · have hne : (c != 0) = true := by simpa using hc
          have HN2 : Hid (cmpL cmpV l k = c) := HN.out.trans (orI_of hc)
          go_wp2_with (go_at_call 52; (with_reducible refine (HC0.out _).mono ?_); rintro e w1 ⟨rfl, hb⟩; have HB1 := Lib.hid hb; clear hb)
          go_ret
          exact ⟨by rw [HN2.out]; rfl, (HB.out.trans (Grew.two _ _)).trans HB1.out⟩
      · have HN : Hid (cmpL cmpV l k = 1) := by
          show _ = _
          rw [HE.out, cmpL_end cmpV l k i hi1 hi2 (fun h => hlt2 h.2), cmpI_gt (by omega)]
        have hge : (k.length : Int) ≤ (i : Int) := by omega
        clear hx hL HE
        obtain ⟨x1, x2, x3⟩ := x
        simp only at y0 y1 y2
        go_wp2_with fail
        go_ret
        exact ⟨by rw [HN.out]; rfl, HB.out.alloc _⟩
    · obtain rfl : i = l.length := by omega
      have HN := Lib.hid (HE.out.trans (cmpL_end cmpV l k l.length hi1 hi2 (fun h => hlt1 h.1)))
      by_cases hlk : l.length < k.length
      · have HM : Hid (cmpL cmpV l k = -1) := by show _ = _; rw [HN.out, cmpI_lt (by omega)]
        go_wp2_with fail
        go_ret
        exact ⟨by rw [HM.out]; rfl, HB.out⟩
      · have HM : Hid (cmpL cmpV l k = 0) := by show _ = _; rw [HN.out, show k.length = l.length by omega, cmpI_eq]
        go_wp2_with fail
        go_ret
        exact ⟨by rw [HM.out]; rfl, HB.out⟩
set_option maxHeartbeats 2000000 in
set_option maxRecDepth 100000 in
theorem ffull_any (r s : Rw) (w : World) (hr : r.Ok w) (hs : s.Ok w) : Calls Try.prog 32 #[r.val, s.val] w fun e w' => e = .returned (.int .i64 (cmpR r.key s.key)) ∧ Grew w w' := by
  have HR := Lib.hid hr
  have HS := Lib.hid hs
  clear hr hs
  have E : Hid (cmpR r.key s.key = orL [orI (cmpI r.ev s.ev) (cmpID (r.src, r.seq) (s.src, s.seq)), cmpI r.no s.no, cmpI r.tk s.tk, cmpS r.tb s.tb, cmpS r.ky s.ky, cmpL cmpV r.vs s.vs]) := by
    show _ = _
    rw [orL_six, orI_assoc]; rfl
  rw [E.out]
  have C0 := Lib.hid (fun w => frow_any r s w)
  have C1 := Lib.hid (fun w => compare_any r.no s.no w)
  have C2 := Lib.hid (fun w => compare_any r.tk s.tk w)
  have C3 := Lib.hid (fun w => strings_any r.tb s.tb w)
  have C4 := Lib.hid (fun w => strings_any r.ky s.ky w)
  have hrl := HR.out.len
  have hsl := HS.out.len
  have C5 := Lib.hid (fun w' h h' => fvals_any r.vs s.vs r.fa s.fa r.fc s.fc (by omega) (by omega) w' h h')
  have HR5 := Lib.hid HR.out.lies
  have HS5 := Lib.hid HS.out.lies
  clear HR HS hrl hsl E
  generalize orI (cmpI r.ev s.ev) (cmpID (r.src, r.seq) (s.src, s.seq)) = c0 at *
  generalize cmpI r.no s.no = c1 at *
  generalize cmpI r.tk s.tk = c2 at *
  generalize cmpS r.tb s.tb = c3 at *
  generalize cmpS r.ky s.ky = c4 at *
  generalize cmpL cmpV r.vs s.vs = c5 at *
  have HOr := Lib.hid (fun V => or6_any V c0 c1 c2 c3 c4 c5)
  generalize orL [c0, c1, c2, c3, c4, c5] = q at *
  dsimp only [Rw.val]
  go_enter Try.func32, Try.ntmps32
  go_upto_region 1 with fail
  refine wp_gen (fun V hV => ?_)
  have HGV : Hid (Grew w V) := by rw [hV]; exact Grew.two _ _
  have B0 : Hid (Box V w.heap.size #[.string r.src, .int .i64 r.seq, .string r.tb, .string r.ky, .int .i64 r.ev, .slice r.fa r.vs.length r.fc, .int .i64 r.no, .int .i64 r.tk] 39) := by rw [hV]; exact (Box.new w _ _).kept (below_here _)
  have B1 : Hid (Box V (w.heap.size + 1) #[.string s.src, .int .i64 s.seq, .string s.tb, .string s.ky, .int .i64 s.ev, .slice s.fa s.vs.length s.fc, .int .i64 s.no, .int .i64 s.tk] 39) := by rw [hV]; show Box _ _ _ _; have := Box.new (w.alloc (.cells #[.string r.src, .int .i64 r.seq, .string r.tb, .string r.ky, .int .i64 r.ev, .slice r.fa r.vs.length r.fc, .int .i64 r.no, .int .i64 r.tk] 39)) #[.string s.src, .int .i64 s.seq, .string s.tb, .string s.ky, .int .i64 s.ev, .slice s.fa s.vs.length s.fc, .int .i64 s.no, .int .i64 s.tk] 39; simpa using this
  obtain ⟨a0, a1, a2, a3, a4, a5, a6, a7⟩ := B0.out.grown8
  obtain ⟨b0, b1, b2, b3, b4, b5, b6, b7⟩ := B1.out.grown8
  have D5 := Lib.hid (fun d os => Calls.grewn (C5.out (Go.Sort.grow (V.drewN d) os) ((HR5.out.kept HGV.out.below).kept (Grew.of_ex V d os).below) ((HS5.out.kept HGV.out.below).kept (Grew.of_ex V d os).below)))
  clear hV B0 B1 C5
  refine wp_region_grown_tail 28 (by kernel_rfl) (by kernel_rfl) ?_
  simp only [List.take_succ_cons, List.take_zero, List.drop_succ_cons, List.drop_zero]
  repeat (go_big_quiet_step (first | with_reducible exact Calls.grewn (C0.out _) | with_reducible exact D5.out _ _ | with_reducible exact Calls.grewn_same (C1.out _) | with_reducible exact Calls.grewn_same (C2.out _) | with_reducible exact Calls.grewn_same (C3.out _) | with_reducible exact Calls.grewn_same (C4.out _)))
  refine wpQuiet_nil ?_
  intro _ hw'
  obtain ⟨p, hw''⟩ := hw'
  subst hw''
  have HZ := Lib.hid (Grew.of_ex V p.n p.os)
  clear a0 a1 a2 a3 a4 a5 a6 a7 b0 b1 b2 b3 b4 b5 b6 b7 C0 C1 C2 C3 C4 D5 HR5 HS5
  generalize Go.Sort.grow (V.drewN p.n) p.os = V2 at *
  go_wp2_with (go_at_call 30; (with_reducible refine (HOr.out _).mono ?_); rintro e w1 ⟨rfl, rfl⟩)
  go_ret
  exact ⟨rfl, (HGV.out.trans HZ.out).alloc _⟩
set_option maxHeartbeats 2000000 in
set_option maxRecDepth 100000 in
theorem fdelta_any (x y : Dl) (w : World) (hx : x.r.Ok w) (hy : y.r.Ok w) : Calls Try.prog 29 #[x.val, y.val] w fun e w' => e = .returned (.int .i64 (cmpD x.key y.key)) ∧ Grew w w' := by
  have HR := Lib.hid hx
  have HS := Lib.hid hy
  clear hx hy
  have E : Hid (cmpD x.key y.key = orL [cmpI x.tick y.tick, cmpR x.r.key y.r.key]) := by show _ = _; rw [orL_two]; rfl
  rw [E.out]
  have C0 := Lib.hid (fun w => compare_any x.tick y.tick w)
  have C5 := Lib.hid (fun w' h h' => ffull_any x.r y.r w' h h')
  clear E
  generalize cmpI x.tick y.tick = c0 at *
  generalize cmpR x.r.key y.r.key = c1 at *
  have HOr := Lib.hid (fun V => or2_any V c0 c1)
  generalize orL [c0, c1] = q at *
  dsimp only [Dl.val]
  go_enter Try.func29, Try.ntmps29
  go_upto_region 1 with fail
  refine wp_gen (fun V hV => ?_)
  have HGV : Hid (Grew w V) := by rw [hV]; exact Grew.two _ _
  have B0 : Hid (Box V w.heap.size #[.string x.r.src, .int .i64 x.r.seq, .string x.r.tb, .string x.r.ky, .int .i64 x.r.ev, .slice x.r.fa x.r.vs.length x.r.fc, .int .i64 x.r.no, .int .i64 x.r.tk, .int .i64 x.tick, .int .i64 x.n] 41) := by rw [hV]; exact (Box.new w _ _).kept (below_here _)
  have B1 : Hid (Box V (w.heap.size + 1) #[.string y.r.src, .int .i64 y.r.seq, .string y.r.tb, .string y.r.ky, .int .i64 y.r.ev, .slice y.r.fa y.r.vs.length y.r.fc, .int .i64 y.r.no, .int .i64 y.r.tk, .int .i64 y.tick, .int .i64 y.n] 41) := by rw [hV]; show Box _ _ _ _; have := Box.new (w.alloc (.cells #[.string x.r.src, .int .i64 x.r.seq, .string x.r.tb, .string x.r.ky, .int .i64 x.r.ev, .slice x.r.fa x.r.vs.length x.r.fc, .int .i64 x.r.no, .int .i64 x.r.tk, .int .i64 x.tick, .int .i64 x.n] 41)) #[.string y.r.src, .int .i64 y.r.seq, .string y.r.tb, .string y.r.ky, .int .i64 y.r.ev, .slice y.r.fa y.r.vs.length y.r.fc, .int .i64 y.r.no, .int .i64 y.r.tk, .int .i64 y.tick, .int .i64 y.n] 41; simpa using this
  obtain ⟨a0, a1, a2, a3, a4, a5, a6, a7, a8, a9⟩ := B0.out.grown10
  obtain ⟨b0, b1, b2, b3, b4, b5, b6, b7, b8, b9⟩ := B1.out.grown10
  have D5 := Lib.hid (fun d os => Calls.grewn (C5.out (Go.Sort.grow (V.drewN d) os) ((HR.out.kept HGV.out.below).kept (Grew.of_ex V d os).below) ((HS.out.kept HGV.out.below).kept (Grew.of_ex V d os).below)))
  clear hV B0 B1 C5
  refine wp_region_grown_tail 10 (by kernel_rfl) (by kernel_rfl) ?_
  simp only [List.take_succ_cons, List.take_zero, List.drop_succ_cons, List.drop_zero]
  repeat (go_big_quiet_step (first | with_reducible exact Calls.grewn_same (C0.out _) | with_reducible exact D5.out _ _))
  refine wpQuiet_nil ?_
  intro _ hw'
  obtain ⟨p, hw''⟩ := hw'
  subst hw''
  have HZ := Lib.hid (Grew.of_ex V p.n p.os)
  clear a0 a1 a2 a3 a4 a5 a6 a7 a8 a9 b0 b1 b2 b3 b4 b5 b6 b7 b8 b9 C0 D5 HR HS
  generalize Go.Sort.grow (V.drewN p.n) p.os = V2 at *
  go_wp2_with (go_at_call 30; (with_reducible refine (HOr.out _).mono ?_); rintro e w1 ⟨rfl, rfl⟩)
  go_ret
  exact ⟨rfl, (HGV.out.trans HZ.out).alloc _⟩
end Go.Proofs.Ytfnpfkgmacaboaa
