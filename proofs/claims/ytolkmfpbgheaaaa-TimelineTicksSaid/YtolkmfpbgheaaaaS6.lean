/-
  timeline.SessionAt returns the current session.
-/
import Derived.Test.YtolkmfpbgheaaaaS5
namespace Go.Proofs.Ytolkmfpbgheaaaa
open Go.ChangeShapes Go.WideShapes Go.ChangeAt Go.RowKit
set_option linter.unusedVariables false
set_option linter.unusedSimpArgs false

attribute [local go_sem] Oper.semAt_some

/-- The events up to a tick. -/
def past (s : List Int) (t : Int) : List Int := s.filter fun x => !decide (t < x)
/-- The current session, if there is one. -/
def nowS (l : List Iv) (g t : Int) : Option Iv := match l.getLast? with
  | some i => if g < t - i.2 then none else some i
  | none => none
def seAt (s : List Int) (g t : Int) : Option Iv := if okT t && gapOk g then nowS (sess g (sortT (past s t))) g t else none
def seOut : Option Iv → Value
  | some i => .tuple #[iv i.1 i.2, .bool true]
  | none => .tuple #[iv 0 0, .bool false]
def SeIs (w : World) (r : Option Iv) (e : Ending) (w' : World) : Prop := e = .returned (seOut r) ∧ Below w.heap.size w w'
theorem gt_pred (x t : Int) (bt : Nat) (W : World) (hc : W.cell? ⟨bt, 0, none⟩ = some (.int .i64 t)) : Calls Try.prog 40 #[.int .i64 x, .pointer (some ⟨bt, 0, none⟩)] W fun e w' => e = .returned (.bool (decide (t < x))) ∧ ∃ q, w' = W.drewN q := by
  go_enter Try.func40, Try.ntmps40
  go_wp2_with fail
  all_goals
    go_ret
    exact ⟨by simp_all, 0, rfl⟩
def lastI (l : List Iv) : Iv := l.getLast?.getD (0, 0)
theorem lastI_append (l : List Iv) (x : Iv) : lastI (l ++ [x]) = x := by simp [lastI]

theorem Two.alloc {W : World} {g : Nat} {x y : Value} (h : Two W g x y) (o : Obj) : Two (W.alloc o) g x y := h.kept (below_here _)
theorem Two.grown {W W' : World} {g : Nat} {x y : Value} {r : Option Nat} (h : Two W g x y) (hg : W.grownBy W' r) (hne : some g ≠ r) : Two W' g x y := (hg.block g h.lt hne).trans h

theorem grownBy_set (W : World) (b o : Nat) (v : Value) : W.grownBy (W.setCell ⟨b, o, none⟩ v) (some b) :=
  ⟨rfl, rfl, rfl, (KeepsWalks.setCell W _ v).size, fun k _ hk => Below.heap_setCell _ _ _ k (fun e => hk (by rw [e]))⟩
theorem sessGo_mem (g : Int) : ∀ (r : List Int) (c x : Iv), x ∈ sessGo g c r → (x.1 ∈ c.1 :: c.2 :: r) ∧ (x.2 ∈ c.1 :: c.2 :: r)
  | [], c, x, h => by simp [sessGo] at h; subst h; simp
  | y :: r, c, x, h => by
    unfold sessGo at h
    split at h
    · have := sessGo_mem g r (c.1, y) x h
      simp only [List.mem_cons] at this ⊢
      rcases this with ⟨h1, h2⟩
      exact ⟨by rcases h1 with h | h | h <;> simp [h], by rcases h2 with h | h | h <;> simp [h]⟩
    · rcases List.mem_cons.1 h with h | h
      · subst h; simp
      · have := sessGo_mem g r (y, y) x h
        simp only [List.mem_cons] at this ⊢
        rcases this with ⟨h1, h2⟩
        exact ⟨by rcases h1 with h | h | h <;> simp [h], by rcases h2 with h | h | h <;> simp [h]⟩
theorem sess_mem {g : Int} {s : List Int} {x : Iv} (h : x ∈ sess g s) : x.1 ∈ s ∧ x.2 ∈ s := by
  cases s with
  | nil => simp [sess] at h
  | cons a r =>
    have := sessGo_mem g r (a, a) x h
    simp only [List.mem_cons] at this ⊢
    exact ⟨by rcases this.1 with h | h | h <;> simp [h], by rcases this.2 with h | h | h <;> simp [h]⟩

set_option maxRecDepth 100000 in
set_option maxHeartbeats 4000000 in
theorem seAt_in (s : List Int) (ao : Option Addr) (c : Nat) (hl : s.length ≤ 1099511627776) (g t : Int) (ht : okT t = true) (hg : gapOk g = true) (w : World) (h : IntsIn w ao s) :
    Calls Try.prog 26 #[.slice ao s.length c, .int .i64 g, .int .i64 t] w (SeIs w (nowS (sess g (sortT (past s t))) g t)) := by
  refine (callsIn_wide (n := 3)).1 ?_
  obtain ⟨g1, g2⟩ := of_decide_eq_true hg
  have HT := Lib.hid (fun w' => callsIn_wide (n := 2).2 (tick_any t w'))
  have HC := Lib.hid (fun w' hw => callsIn_wide (n := 2).2 (clone_own s ao c (by omega) w' hw))
  have HPL : Hid ((past s t).length ≤ s.length) := List.length_filter_le _ _
  have HM := Lib.hid (fun A c' w' hw => callsIn_wide (n := 2).2 (sessions_any (past s t) A c' (by have := HPL.out; omega) g w' hw))
  have HTT := Lib.hid ht
  refine callsIn_of_wp_marks Try.func26 rfl trivial ?_ rfl
  simp only [Try.ntmps26, List.size_toArray, List.length_cons, List.length_nil, Nat.reduceAdd, Nat.reduceSub, Array.replicate_succ, Array.replicate_zero, List.push_toArray, List.append_toArray, List.nil_append, List.cons_append]
  have d1 : decide (g < 1) = false := by simp; omega
  have d2 : decide (1099511627776 < g) = false := by simp; omega
  have H := Lib.hid h
  clear h ht hg
  gi_wp2_with fail
  refine ⟨trivial, (HT.out _).mono ?_⟩
  rintro e w0 ⟨rfl, rfl⟩
  rw [HTT.out]
  gi_wp2_with fail
  obtain ⟨W0, hW0⟩ : ∃ W0, W0 = ((w.alloc (.cells #[.int .i64 t] 3)).alloc (.cells #[.int .i64 0, .int .i64 0] 23)).alloc (.cells #[.bool false] 4) := ⟨_, rfl⟩
  rw [← hW0]
  have hz0 : W0.heap.size = w.heap.size + 3 := by rw [hW0]; simp
  have hbt0 : Boxed W0 w.heap.size 3 (.int .i64 t) := by rw [hW0]; exact ((Boxed.new w 3 _).alloc _).alloc _
  have hbi0 : Two W0 (w.heap.size + 1) (.int .i64 0) (.int .i64 0) := by rw [hW0]; have := (Two.new (w.alloc (.cells #[.int .i64 t] 3)) (.int .i64 0) (.int .i64 0)).alloc (.cells #[.bool false] 4); simpa using this
  have hbo0 : Boxed W0 (w.heap.size + 1 + 1) 4 (.bool false) := by rw [hW0]; have := Boxed.new ((w.alloc (.cells #[.int .i64 t] 3)).alloc (.cells #[.int .i64 0, .int .i64 0] 23)) 4 (.bool false); simpa using this
  have hb0 : Below w.heap.size w W0 := by rw [hW0]; exact ((below_here _).alloc (by simp) _).alloc (by simp; omega) _
  have HI0 := Lib.hid (H.out.kept hb0)
  generalize hbi : w.heap.size + 1 = bi at *
  generalize hbo : bi + 1 = bo at *
  clear hW0
  refine ⟨trivial, (HC.out W0 HI0.out).mono ?_⟩
  rintro e w1 ⟨v, rfl, ho, hb⟩
  have HB1 := Lib.hid (hb0.trans (hb.mono (by omega)))
  have hbt1 : Boxed w1 w.heap.size 3 (.int .i64 t) := (hb.block _ hbt0.lt).trans hbt0
  have HBT1 := Lib.hid hbt1
  have HBI1 : Hid (Two w1 bi (.int .i64 0) (.int .i64 0)) := hbi0.kept hb
  have HBO1 : Hid (Boxed w1 bo 4 (.bool false)) := (hb.block _ hbo0.lt).trans hbo0
  have hz1 := hb.size
  have HD := Lib.hid (callsIn_wide (n := 2).2 (del_own (fun x => decide (t < x)) 40 #[.pointer (some ⟨w.heap.size, 0, none⟩)] (Go.Proofs.enters_of Try.func40 (by kernel_rfl) rfl) s (by omega) W0.heap.size v w1 hz1
    (fun W x hW => gt_pred x t w.heap.size W ((hW.cell (p := ⟨w.heap.size, 0, none⟩) hbt1.lt).trans hbt1.cell))
    (fun blk hblk n os dk x _ => gt_pred x t w.heap.size _ (by
      unfold Go.Proofs.sortWorld
      rw [Go.Sort.cell?_grow _ _ _ (by show w.heap.size < (Go.Sort.putRow _ _ _ _ _).heap.size; rw [Go.Sort.size_putRow]; exact hbt1.lt), Go.Sort.cell?_putRow_other _ _ blk 0 _ _ (Or.inl (by show w.heap.size ≠ blk; omega))]
      exact hbt1.cell)) ho))
  clear hb ho hb0 hbt0 hbi0 hbo0 HI0 H HC hbt1 HT
  gi_wp2_with fail
  refine ⟨trivial, HD.out.mono ?_⟩
  rintro e w2 ⟨v2, rfl, ho2, hb2⟩
  have ho2' : OwnI w2 W0.heap.size v2 (past s t) := ho2
  obtain ⟨A, c2, rfl, -, hin⟩ := ho2'.slots
  have HB2 := Lib.hid (HB1.out.trans (hb2.mono (by omega)))
  have HBT2 : Hid (Boxed w2 w.heap.size 3 (.int .i64 t)) := (hb2.block _ (by omega)).trans HBT1.out
  have HBI2 : Hid (Two w2 bi (.int .i64 0) (.int .i64 0)) := HBI1.out.below (by omega) hb2
  have HBO2 : Hid (Boxed w2 bo 4 (.bool false)) := (hb2.block _ (by omega)).trans HBO1.out
  have hz2 := hb2.size
  have HIN := Lib.hid hin
  clear ho2 ho2' hin hb2 HD HB1 HBT1 HBI1 HBO1
  gi_wp2_with fail
  refine ⟨trivial, (HM.out A c2 w2 HIN.out).mono ?_⟩
  rintro e w3 ⟨bl, bg, b, rfl, hst, hn1, hn2, ⟨hl1, hl2, hl3⟩, ⟨hu1, hu2, hu3⟩, hb⟩
  have hz3 := hb.size
  have HB3 := Lib.hid (HB2.out.trans (hb.mono (by omega)))
  have HBT3 : Hid (Boxed w3 w.heap.size 3 (.int .i64 t)) := (hb.block _ (by omega)).trans HBT2.out
  have HBI3 : Hid (Two w3 bi (.int .i64 0) (.int .i64 0)) := HBI2.out.below (by omega) hb
  have HBO3 : Hid (Boxed w3 bo 4 (.bool false)) := (hb.block _ (by omega)).trans HBO2.out
  have HY := Lib.hid (ses_yields 2 (by omega) g g1 g2 bl bg b hn1 hn2 (sortT (past s t)) (sortT_tick _) (by have := sortT_length (past s t); have := HPL.out; omega) w3 hst)
  have hbl1 : bo < bl := by omega
  have hbl2 : bo < bg := by omega
  have hbl3 : bo < b := by omega
  clear hst hb HB2 HBT2 HBI2 HBO2 HM HIN
  gi_wp2
  refine wp_range (n := 3) (gf := 45) (lb := #[.pointer (some ⟨bl, 0, none⟩), .pointer (some ⟨bg, 0, none⟩)]) rfl (Go.Proofs.enters_of Try.func45 (by kernel_rfl) rfl) (encs := fun x : Iv => #[iv x.1 x.2]) (fun _ => rfl) (bl := bl) hu1 (K := fun k => k = bl ∨ k = bg ∨ k = b)
    (fun k hk => by rcases hk with rfl | rfl | rfl <;> assumption) HY.out
    (fun pre W => Two W bi (.int .i64 (lastI pre).1) (.int .i64 (lastI pre).2) ∧ Boxed W bo 4 (.bool (!pre.isEmpty)) ∧ Boxed W w.heap.size 3 (.int .i64 t) ∧ Below w.heap.size w W) ?minds ⟨HBI3.out, HBO3.out, HBT3.out, HB3.out⟩
    (fun x a' W => ∃ q, w3.heap.size ≤ q ∧ Two W q (.int .i64 x.1) (.int .i64 x.2) ∧ a' = { tmps := #[.slice ao s.length c, .int .i64 g, .int .i64 t, undef, undef, .pointer (some ⟨w.heap.size, 0, none⟩), .pointer (some ⟨bi, 0, none⟩), .pointer (some ⟨bo, 0, none⟩), .slice A (past s t).length c2, .pointer (some ⟨q, 0, none⟩), .int .i64 t, .bool true, .bool false, .bool false, .int .i64 g, .bool false, .bool false, .bool false, .int .i64 g, .bool false, .bool false, undef, .slice ao s.length c, v, .func (.func 40) #[] #[.pointer (some ⟨w.heap.size, 0, none⟩)], .slice A (past s t).length c2, .slice A (past s t).length c2, .int .i64 g, .func (.func 45) #[] #[.pointer (some ⟨bl, 0, none⟩), .pointer (some ⟨bg, 0, none⟩)], iv x.1 x.2, undef, undef, undef, undef, undef, undef, undef, undef, undef, undef, undef, undef, undef], defers := [] }) ?axm ?assign ?body ?done
  case minds =>
    rintro pre A B r ⟨h1, h2, h3, h4⟩ hg hr
    have hne : bo < r := by rcases hr with rfl | ⟨hr, _⟩ <;> omega
    exact ⟨h1.grown hg (fun e => by injection e with e; omega), h2.kept hg (fun e => by injection e with e; omega), h3.kept hg (fun e => by injection e with e; omega), h4.grown hg h4.size (fun k e => by injection e with e; omega)⟩
  case axm =>
    rintro x a' A B r ⟨q, hq, h2, rfl⟩ hg hr
    refine ⟨q, hq, h2.grown hg (fun e => ?_), rfl⟩
    injection e with e
    subst e
    rcases hr with rfl | ⟨_, o, ho', hc⟩
    · omega
    · rw [show A.heap[q]? = _ from h2] at ho'; cases ho'; cases hc
  case assign =>
    rintro l pre x W C hS ⟨h1, h2, h3, h4⟩ hC
    gi_wp2
    refine hC _ _ ⟨h1.alloc _, h2.alloc _, h3.alloc _, h4.alloc h4.size _⟩ ⟨fun k hk => Below.heap_alloc _ _ _ ?_, fun k o _ hk _ => (Below.heap_alloc _ _ _ (Array.getElem?_eq_some_iff.1 hk).1).trans hk⟩ ⟨W.heap.size, hS, Two.new _ _ _, rfl⟩
    rcases hk with rfl | rfl | rfl <;> omega
  case body =>
    rintro l pre x rest a' W hxs hS ⟨h1, h2, h3, h4⟩ ⟨q, hq, hqq, rfl⟩
    obtain ⟨x1, x2⟩ := x
    obtain ⟨t0, t1, -, -⟩ := hqq.all
    obtain ⟨i0, i1, if0, if1⟩ := h1.all
    have o0 := h2.cell
    have of0 := h2.frozen
    have H1 := Lib.hid h1
    have H2 := Lib.hid h2
    have H3 := Lib.hid h3
    have H4 := Lib.hid h4
    have hbio : bi ≠ bo := by omega
    clear hxs h1 h2 h3 h4 hqq
    gi_wp2
    have hsz1 : W.heap.size ≤ (W.setCell ⟨bi, 0, none⟩ (.int .i64 x1)).heap.size := (KeepsWalks.setCell W _ _).size
    refine ⟨⟨?_, ?_, ?_, ((H4.out.setCell (by show w.heap.size ≤ bi; omega) _).setCell (by show w.heap.size ≤ bi; omega) _).setCell (by show w.heap.size ≤ bo; omega) _⟩, ?_, ?_⟩
    · rw [lastI_append]; exact (H1.out.put _ _).grown (grownBy_set _ bo 0 _) (fun e => by injection e with e; omega)
    · rw [show (!(pre ++ [(x1, x2)]).isEmpty) = true by simp]
      exact ((H2.out.kept (grownBy_set _ bi 0 _) (fun e => by injection e with e; omega)).kept (grownBy_set _ bi 1 _) (fun e => by injection e with e; omega)).set _
    · exact ((H3.out.kept (grownBy_set _ bi 0 _) (fun e => by injection e with e; omega)).kept (grownBy_set _ bi 1 _) (fun e => by injection e with e; omega)).kept (grownBy_set _ bo 0 _) (fun e => by injection e with e; omega)
    · intro k hk
      have hk' : k ≠ bi ∧ k ≠ bo := by rcases hk with rfl | rfl | rfl <;> omega
      rw [Below.heap_setCell _ _ _ k hk'.2, Below.heap_setCell _ _ _ k hk'.1, Below.heap_setCell _ _ _ k hk'.1]
    · intro k o hk ho hc
      rw [Below.heap_setCell _ _ _ k (by show k ≠ bo; omega), Below.heap_setCell _ _ _ k (by show k ≠ bi; omega), Below.heap_setCell _ _ _ k (by show k ≠ bi; omega)]
      exact ho
  case done =>
    rintro D W hD ⟨h1, h2, h3, h4⟩ hK
    have HMEM : Hid (∀ x ∈ sess g (sortT (past s t)), 0 ≤ x.2 ∧ x.2 ≤ 1099511627776) := fun x hx => sortT_tick _ _ (sess_mem hx).2
    have HTK := Lib.hid (okT_yes HTT.out)
    have HK := Lib.hid hK
    have hbio : bi ≠ bo := by omega
    have END : Hid (∀ y1 y2 bb, Two W bi (.int .i64 (lastI (sess g (sortT (past s t)))).1) (.int .i64 (lastI (sess g (sortT (past s t)))).2) → Boxed W bo 4 (.bool (!(sess g (sortT (past s t))).isEmpty)) → ((((W.setCell ⟨bi, 0, none⟩ (.int .i64 y1)).setCell ⟨bi, 1, none⟩ (.int .i64 y2)).setCell ⟨bo, 0, none⟩ (.bool bb)).heap[D]? = some (.deferred (some []))) ∧ Two ((((W.setCell ⟨bi, 0, none⟩ (.int .i64 y1)).setCell ⟨bi, 1, none⟩ (.int .i64 y2)).setCell ⟨bo, 0, none⟩ (.bool bb)).putObj D (.deferred none)) bi (.int .i64 y1) (.int .i64 y2) ∧ Boxed ((((W.setCell ⟨bi, 0, none⟩ (.int .i64 y1)).setCell ⟨bi, 1, none⟩ (.int .i64 y2)).setCell ⟨bo, 0, none⟩ (.bool bb)).putObj D (.deferred none)) bo 4 (.bool bb) ∧ Below w.heap.size w ((((W.setCell ⟨bi, 0, none⟩ (.int .i64 y1)).setCell ⟨bi, 1, none⟩ (.int .i64 y2)).setCell ⟨bo, 0, none⟩ (.bool bb)).putObj D (.deferred none))) := by
      intro y1 y2 bb k1 k2
      have hb5 : Below w.heap.size w (((W.setCell ⟨bi, 0, none⟩ (.int .i64 y1)).setCell ⟨bi, 1, none⟩ (.int .i64 y2)).setCell ⟨bo, 0, none⟩ (.bool bb)) := ((h4.setCell (by show w.heap.size ≤ bi; omega) _).setCell (by show w.heap.size ≤ bi; omega) _).setCell (by show w.heap.size ≤ bo; omega) _
      refine ⟨?_, ?_, ?_, ?_⟩
      · rw [Below.heap_setCell _ _ _ D (by show D ≠ bo; omega), Below.heap_setCell _ _ _ D (by show D ≠ bi; omega), Below.heap_setCell _ _ _ D (by show D ≠ bi; omega)]; exact hK
      · exact ((k1.put _ _).grown (grownBy_set _ bo 0 _) (fun e => by injection e with e; omega)).grown (grownBy_putObj' _ D _) (fun e => by injection e with e; omega)
      · exact (((k2.kept (grownBy_set _ bi 0 _) (fun e => by injection e with e; omega)).kept (grownBy_set _ bi 1 _) (fun e => by injection e with e; omega)).set _).kept (grownBy_putObj' _ D _) (fun e => by injection e with e; omega)
      · exact hb5.grown (grownBy_putObj' _ D _) hb5.size (fun k e => by injection e with e; omega)
    have EN := Lib.hid (fun y1 y2 bb => END.out y1 y2 bb h1 h2)
    obtain ⟨i0, i1, if0, if1⟩ := h1.all
    have o0 := h2.cell
    have of0 := h2.frozen
    have t0 := h3.cell
    clear h1 h2 h3 h4 hK END HY
    generalize sess g (sortT (past s t)) = L at *
    rcases last_cases L with rfl | ⟨a, y, rfl⟩
    · have o1 : W.cell? ⟨bo, 0, none⟩ = some (.bool false) := o0
      clear o0
      gi_wp2
      obtain ⟨q1, q2, q3, q4⟩ := EN.out 0 0 false
      refine ⟨by simp, .inl ⟨_, _, rfl, run_takeDeferred q1, ?_⟩⟩
      exact ⟨_, by simp [results, Try.results26, go_sem, q2.all.1, q2.all.2.1, q3.cell, seOut, nowS], rfl, q4⟩
    · have hyt := HMEM.out y (by simp)
      have htt := HTK.out
      rw [lastI_append] at i0 i1
      rw [show (!(a ++ [y]).isEmpty) = true by simp] at o0
      obtain ⟨y1, y2⟩ := y
      simp only at i0 i1 hyt
      have HNOW : Hid (nowS (a ++ [(y1, y2)]) g t = if g < t - y2 then none else some (y1, y2)) := by show _ = _; unfold nowS; simp
      by_cases hc : g < t - y2
      · have hcd : decide (g < t - y2) = true := by simpa using hc
        have HN2 : Hid (nowS (a ++ [(y1, y2)]) g t = none) := by show _ = _; rw [HNOW.out, if_pos hc]
        clear hc
        gi_wp2
        obtain ⟨q1, q2, q3, q4⟩ := EN.out 0 0 false
        refine ⟨by simp, .inl ⟨_, _, rfl, run_takeDeferred q1, ?_⟩⟩
        rw [HN2.out]
        exact ⟨_, by simp [results, Try.results26, go_sem, q2.all.1, q2.all.2.1, q3.cell, seOut], rfl, q4⟩
      · have hcd : decide (g < t - y2) = false := by simpa using hc
        have HN2 : Hid (nowS (a ++ [(y1, y2)]) g t = some (y1, y2)) := by show _ = _; rw [HNOW.out, if_neg hc]
        clear hc
        gi_wp2
        obtain ⟨q1, q2, q3, q4⟩ := EN.out y1 y2 true
        refine ⟨by simp, .inl ⟨_, _, rfl, run_takeDeferred q1, ?_⟩⟩
        rw [HN2.out]
        exact ⟨_, by simp [results, Try.results26, go_sem, q2.all.1, q2.all.2.1, q3.cell, seOut], rfl, q4⟩

set_option maxRecDepth 100000 in
set_option maxHeartbeats 4000000 in
theorem seAt_out (ao : Option Addr) (m c : Nat) (g t : Int) (hbad : (okT t && gapOk g) = false) (w : World) :
    Calls Try.prog 26 #[.slice ao m c, .int .i64 g, .int .i64 t] w (SeIs w none) := by
  refine (callsIn_wide (n := 3)).1 ?_
  have HT := Lib.hid (fun w' => callsIn_wide (n := 2).2 (tick_any t w'))
  refine callsIn_of_wp_marks Try.func26 rfl trivial ?_ rfl
  simp only [Try.ntmps26, List.size_toArray, List.length_cons, List.length_nil, Nat.reduceAdd, Nat.reduceSub, Array.replicate_succ, Array.replicate_zero, List.push_toArray, List.append_toArray, List.nil_append, List.cons_append]
  cases ht : okT t
  · have HTT := Lib.hid ht
    clear ht
    gi_wp2_with fail
    refine ⟨trivial, (HT.out _).mono ?_⟩
    rintro e w0 ⟨rfl, rfl⟩
    rw [HTT.out]
    gi_wp2_with fail
    exact ⟨_, by simp [results, Try.results26, go_sem, seOut], rfl, ((below_here _).alloc (by simp) _).alloc (by simp; omega) _⟩
  · have HTT := Lib.hid ht
    have hg : ¬ (1 ≤ g ∧ g ≤ 1099511627776) := of_decide_eq_false (show gapOk g = false by rw [ht] at hbad; simpa using hbad)
    clear ht hbad
    by_cases h1 : g < 1
    · have d1 : decide (g < 1) = true := by simpa using h1
      gi_wp2_with fail
      refine ⟨trivial, (HT.out _).mono ?_⟩
      rintro e w0 ⟨rfl, rfl⟩
      rw [HTT.out]
      gi_wp2_with fail
      exact ⟨_, by simp [results, Try.results26, go_sem, seOut], rfl, ((below_here _).alloc (by simp) _).alloc (by simp; omega) _⟩
    · have d1 : decide (g < 1) = false := by simpa using h1
      have d2 : decide (1099511627776 < g) = true := by simp; omega
      gi_wp2_with fail
      refine ⟨trivial, (HT.out _).mono ?_⟩
      rintro e w0 ⟨rfl, rfl⟩
      rw [HTT.out]
      gi_wp2_with fail
      exact ⟨_, by simp [results, Try.results26, go_sem, seOut], rfl, ((below_here _).alloc (by simp) _).alloc (by simp; omega) _⟩
theorem seAt_all (s : List Int) (ao : Option Addr) (c : Nat) (hl : s.length ≤ 1099511627776) (g t : Int) (w : World) (h : IntsIn w ao s) :
    Calls Try.prog 26 #[.slice ao s.length c, .int .i64 g, .int .i64 t] w (SeIs w (seAt s g t)) := by
  unfold seAt
  cases hb : okT t && gapOk g
  · exact seAt_out ao _ c g t hb w
  · have hb' := hb
    rw [Bool.and_eq_true] at hb'
    exact seAt_in s ao c hl g t hb'.1 hb'.2 w h
end Go.Proofs.Ytolkmfpbgheaaaa
