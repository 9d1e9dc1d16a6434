/-
  timeline.Buckets and the specification's hand back the parts of an interval.
-/
import Derived.Test.YtolkmfpbgheaaaaE
namespace Go.Proofs.Ytolkmfpbgheaaaa
open Go.ChangeShapes Go.WideShapes Go.ChangeAt Go.RowKit
set_option linter.unusedVariables false
set_option linter.unusedSimpArgs false

set_option maxHeartbeats 4000000 in
set_option maxRecDepth 100000 in
theorem rbuckets_go (f t s : Int) (h : okI f t = true) (g0 : 1 ≤ s) (g1 : s ≤ 1099511627776) (g2 : t / s - f / s < 4096) (w : World) :
    Calls Try.prog 22 #[iv f t, .int .i64 s] w (IvsAre w (partsN f t s (partsC f t s))) := by
  obtain ⟨i23, hi23, hz0, hz1, hz2⟩ := info_parts info23
  have V1 := fun w => rvalid_any f t w
  simp only [h, if_true, if_false, Bool.false_eq_true] at V1
  have H1 := Lib.hid V1; clear V1
  obtain ⟨d2, d3, d4⟩ := okI_yes h
  have d1 : decide (s < 1) = false := by simp; omega
  have d5 : decide (1099511627776 < s) = false := by simp; omega
  obtain ⟨i1, i2, -, -⟩ := div_facts g0 (show 0 ≤ t by omega)
  obtain ⟨j1, j2, -, -⟩ := div_facts g0 (show 0 ≤ f by omega)
  have j3 : f / s ≤ t / s := Int.ediv_le_ediv (by omega) d3
  have HT := Lib.hid (show okT s = true from decide_eq_true (by omega))
  have d6 : decide (4096 ≤ t / s - f / s) = false := by simp; omega
  go_enter Try.func22, Try.ntmps22
  go_upto_region 1 with fail
  refine wp_gen (fun V hV => ?_)
  have q0 : V.cell? ⟨w.heap.size, 0, none⟩ = some (.int .i64 f) := by rw [hV]; simp [go_sem]
  have q1 : V.cell? ⟨w.heap.size, 1, none⟩ = some (.int .i64 t) := by rw [hV]; simp [go_sem]
  have HBV : Hid (Below w.heap.size w V) := by rw [hV]; exact below_here _
  have HLV : Hid (w.heap.size < V.heap.size) := cells_lt q0
  have r0 : ∀ d os, (Go.Sort.grow (redrawn V d) os).cell? ⟨w.heap.size, 0, none⟩ = some (.int .i64 f) := fun d os => cell_regrown q0 d os
  have r1 : ∀ d os, (Go.Sort.grow (redrawn V d) os).cell? ⟨w.heap.size, 1, none⟩ = some (.int .i64 t) := fun d os => cell_regrown q1 d os
  clear hV
  have HC : Hid (∀ d os, Calls Try.prog 27 #[iv f t] (Go.Sort.grow (redrawn V d) os) fun e w'' => e = .returned (.bool true) ∧ ∃ p : Regrown, w'' = Go.Sort.grow (redrawn V p.d) p.os) := fun d os => Calls.regrown_of (H1.out _)
  have HC2 : Hid (∀ d os, Calls Try.prog 36 #[.int .i64 s] (Go.Sort.grow (redrawn V d) os) fun e w'' => e = .returned (.bool true) ∧ ∃ p : Regrown, w'' = Go.Sort.grow (redrawn V p.d) p.os) := fun d os => Calls.regrown_of ((rtick_any s _).mono fun e w2 ⟨he, hw⟩ => ⟨by rw [he, HT.out], by rw [← hw]; exact Below.refl _ _⟩)
  refine wp_region_quiet_below (by kernel_rfl) (by kernel_rfl) ?_
  repeat (go_big_quiet_step (first | exact HC.out _ _ | exact HC2.out _ _))
  refine wpQuiet_nil ?_
  intro _ hw'
  obtain ⟨p, hw''⟩ := hw'
  subst hw''
  have HZ := Lib.hid (below_regrown V p.d p.os)
  have z0 := r0 p.d p.os
  have z1 := r1 p.d p.os
  generalize Go.Sort.grow (redrawn V p.d) p.os = V2 at *
  clear r0 r1 q0 q1 HC H1
  have HBZ := Lib.hid (HBV.out.trans (HZ.out.mono HBV.out.size))
  have hzl := Lib.hid (cells_lt z0)
  have A0 := Lib.hid (atN_zero d2 d3 g0).1
  have HR := Lib.hid (fun k hk => atN_round d2 d3 g0 k hk)
  have HN : Hid (partsC f t s ≤ 4096 ∧ partsC f t s = t / s - f / s + 1) := by show _ ∧ _; unfold partsC; omega
  clear HZ HBV d6
  go_wp2_with fail
  go_loopw [5, 6] (fun v i wr => ∃ (k : Nat) (v0 : Value), v0 = v ∧ i = .int .i64 (f / s + (k : Int)) ∧ k ≤ partsC f t s ∧ Below V2.heap.size V2 wr ∧ OwnIv wr V2.heap.size v (partsN f t s k)) (fun _ i _ => (t / s + 1 - intOf i).toNat)
  case atStart => exact ⟨0, _, rfl, by simp, Nat.zero_le _, Below.refl _ _, OwnIv.nil _ _⟩
  case round =>
    obtain ⟨k, v, rfl, rfl, hk, hB, hO⟩ := hrel
    have HB := Lib.hid hB
    have HK := Lib.hid hO
    have hsz := Lib.hid hB.size
    have c0 : wr.cell? ⟨w.heap.size, 0, none⟩ = some (.int .i64 f) := (hB.cell hzl.out).trans z0
    have c1 : wr.cell? ⟨w.heap.size, 1, none⟩ = some (.int .i64 t) := (hB.cell hzl.out).trans z1
    by_cases hkl : k < partsC f t s
    · obtain ⟨a0, a1, m0, m1, m2, em, qs0, qs1, hp, hnx, ql⟩ := HR.out k hkl
      by_cases hA : f < (f / s + (k : Int)) * s
      · by_cases hE : (f / s + (k : Int)) * s + s - 1 < t
        · have d8 : f / s + (k : Int) ≤ t / s := by have := HN.out; omega
          have d7 : decide (f / s + (k : Int) ≤ t / s) = true := by simpa using d8
          have hmx : max f ((f / s + (k : Int)) * s) = atN f t s k := (by unfold atN; rw [if_pos hkl])
          have hp2 : part f t s (f / s + (k : Int)) = ((f / s + (k : Int)) * s, ((f / s + (k : Int)) * s + s - 1)) := by rw [hp]; exact Prod.ext (by rw [← hmx]; omega) (by show min _ _ = _; omega)
          have hnx2 := Lib.hid (show atN f t s (k + 1) = ((f / s + (k : Int)) * s + s - 1) + 1 by rw [hnx]; omega)
          have HP := Lib.hid (show partsN f t s (k + 1) = partsN f t s k ++ [((f / s + (k : Int)) * s, ((f / s + (k : Int)) * s + s - 1))] by rw [partsN_succ, hp2])
          have b0 : 0 ≤ (f / s + (k : Int)) * s ∧ (f / s + (k : Int)) * s ≤ 1099511627776 ∧ 0 ≤ ((f / s + (k : Int)) * s + s - 1) ∧ ((f / s + (k : Int)) * s + s - 1) ≤ 1099511627776 ∧ (f / s + (k : Int)) * s ≤ ((f / s + (k : Int)) * s + s - 1) ∧ (f / s + (k : Int)) * s ≤ t := by omega
          have FIN : Hid (∀ X v' w1, Below V2.heap.size V2 X → OwnIv X V2.heap.size v (partsN f t s k) → w1.ownsRow V2.heap.size 23 2 v' (k + 1) (ivCells (partsN f t s k) ++ [.int .i64 ((f / s + (k : Int)) * s), .int .i64 (((f / s + (k : Int)) * s + s - 1))]) → (X.alloc (.cells #[.int .i64 ((f / s + (k : Int)) * s), .int .i64 (((f / s + (k : Int)) * s + s - 1))] 23)).grownBy w1 v.ownBlock → OwnIv w1 V2.heap.size v' (partsN f t s (k + 1)) ∧ Below V2.heap.size V2 w1) := by
            intro X v' w1 hx ho q1 q2
            have hxs := hx.size
            refine ⟨?_, (hx.alloc hxs _).grown q2 (by simp; omega) (fun g hg => (ho.lt g hg).1)⟩
            unfold OwnIv
            rw [HP.out, ivCells_append, List.length_append, partsN_length]; exact q1
          have HO : Hid (∀ X, OwnIv X V2.heap.size v (partsN f t s k) → (X.alloc (.cells #[.int .i64 ((f / s + (k : Int)) * s), .int .i64 (((f / s + (k : Int)) * s + s - 1))] 23)).ownsRow V2.heap.size 23 2 v k (ivCells (partsN f t s k))) := fun X ho => by
            have := ownsRow_kept ho (below_here (.cells #[.int .i64 ((f / s + (k : Int)) * s), .int .i64 (((f / s + (k : Int)) * s + s - 1))] 23))
            rwa [partsN_length] at this
          have H5 : Hid (k + 1 ≤ maxLen) := by show _ ≤ _; unfold maxLen; have := HN.out; omega
          have H6 : Hid ((k + 1) * 16 ≤ 140737488355328) := by show _ ≤ _; have := HN.out; omega
          have H7 : Hid (∀ X, Below V2.heap.size V2 X → V2.heap.size ≤ (X.alloc (.cells #[.int .i64 ((f / s + (k : Int)) * s), .int .i64 (((f / s + (k : Int)) * s + s - 1))] 23)).heap.size) := fun X hx => by have := hx.size; simp; omega
          have HNW : Hid (∀ X : World, ∀ j u, [Value.int .i64 ((f / s + (k : Int)) * s), .int .i64 (((f / s + (k : Int)) * s + s - 1))][j]? = some u → (X.alloc (.cells #[.int .i64 ((f / s + (k : Int)) * s), .int .i64 (((f / s + (k : Int)) * s + s - 1))] 23)).cell? ((⟨X.heap.size, 0, none⟩ : Addr).add j) = some u) := by
            intro X j u hj
            rw [addr_add]
            match j, hj with
            | 0, hj => simp at hj; subst hj; simp [go_sem]
            | 1, hj => simp at hj; subst hj; simp [go_sem]
          have HKN : Hid (k + 1 ≤ partsC f t s) := hkl
          clear hp hp2 hnx HP HN hkl hO hB HR
          have HX : Hid (Below V2.heap.size V2 wr ∧ OwnIv wr V2.heap.size v (partsN f t s k)) := Lib.hid ⟨HB.out, HK.out⟩
          clear em
          go_wp2_with (at_builtin; refine wpList_append_own _ rfl (.tmp 43) (.tmp 60) 24 rfl V2.heap.size 23 i23 _ 2 16 Try.underlying24 hi23 hz0 hz1 hz2 rfl (by decide) v _ _ rfl (HO.out _ HX.out.2) ⟨wr.heap.size, 0, none⟩ 1 1 [.int .i64 ((f / s + (k : Int)) * s), .int .i64 (((f / s + (k : Int)) * s + s - 1))] rfl rfl (HNW.out _) (by simp [Value.oneCell']) H5.out H6.out (H7.out _ HX.out.1) ?_; intro v' w1 hown hgr _; have FN := Lib.hid (FIN.out _ v' w1 HX.out.1 HX.out.2 hown hgr); clear hown hgr)
          go_roundw
          case rel => exact ⟨k + 1, _, rfl, by go_num, HKN.out, FN.out.2, FN.out.1⟩
          case measure => simp [intOf]; omega
        · have d8 : f / s + (k : Int) ≤ t / s := by have := HN.out; omega
          have d7 : decide (f / s + (k : Int) ≤ t / s) = true := by simpa using d8
          have hmx : max f ((f / s + (k : Int)) * s) = atN f t s k := (by unfold atN; rw [if_pos hkl])
          have hp2 : part f t s (f / s + (k : Int)) = ((f / s + (k : Int)) * s, t) := by rw [hp]; exact Prod.ext (by rw [← hmx]; omega) (by show min _ _ = _; omega)
          have hnx2 := Lib.hid (show atN f t s (k + 1) = t + 1 by rw [hnx]; omega)
          have HP := Lib.hid (show partsN f t s (k + 1) = partsN f t s k ++ [((f / s + (k : Int)) * s, t)] by rw [partsN_succ, hp2])
          have b0 : 0 ≤ (f / s + (k : Int)) * s ∧ (f / s + (k : Int)) * s ≤ 1099511627776 ∧ 0 ≤ t ∧ t ≤ 1099511627776 ∧ (f / s + (k : Int)) * s ≤ t ∧ (f / s + (k : Int)) * s ≤ t := by omega
          have FIN : Hid (∀ X v' w1, Below V2.heap.size V2 X → OwnIv X V2.heap.size v (partsN f t s k) → w1.ownsRow V2.heap.size 23 2 v' (k + 1) (ivCells (partsN f t s k) ++ [.int .i64 ((f / s + (k : Int)) * s), .int .i64 (t)]) → (X.alloc (.cells #[.int .i64 ((f / s + (k : Int)) * s), .int .i64 (t)] 23)).grownBy w1 v.ownBlock → OwnIv w1 V2.heap.size v' (partsN f t s (k + 1)) ∧ Below V2.heap.size V2 w1) := by
            intro X v' w1 hx ho q1 q2
            have hxs := hx.size
            refine ⟨?_, (hx.alloc hxs _).grown q2 (by simp; omega) (fun g hg => (ho.lt g hg).1)⟩
            unfold OwnIv
            rw [HP.out, ivCells_append, List.length_append, partsN_length]; exact q1
          have HO : Hid (∀ X, OwnIv X V2.heap.size v (partsN f t s k) → (X.alloc (.cells #[.int .i64 ((f / s + (k : Int)) * s), .int .i64 (t)] 23)).ownsRow V2.heap.size 23 2 v k (ivCells (partsN f t s k))) := fun X ho => by
            have := ownsRow_kept ho (below_here (.cells #[.int .i64 ((f / s + (k : Int)) * s), .int .i64 (t)] 23))
            rwa [partsN_length] at this
          have H5 : Hid (k + 1 ≤ maxLen) := by show _ ≤ _; unfold maxLen; have := HN.out; omega
          have H6 : Hid ((k + 1) * 16 ≤ 140737488355328) := by show _ ≤ _; have := HN.out; omega
          have H7 : Hid (∀ X, Below V2.heap.size V2 X → V2.heap.size ≤ (X.alloc (.cells #[.int .i64 ((f / s + (k : Int)) * s), .int .i64 (t)] 23)).heap.size) := fun X hx => by have := hx.size; simp; omega
          have HNW : Hid (∀ X : World, ∀ j u, [Value.int .i64 ((f / s + (k : Int)) * s), .int .i64 (t)][j]? = some u → (X.alloc (.cells #[.int .i64 ((f / s + (k : Int)) * s), .int .i64 (t)] 23)).cell? ((⟨X.heap.size, 0, none⟩ : Addr).add j) = some u) := by
            intro X j u hj
            rw [addr_add]
            match j, hj with
            | 0, hj => simp at hj; subst hj; simp [go_sem]
            | 1, hj => simp at hj; subst hj; simp [go_sem]
          have HKN : Hid (k + 1 ≤ partsC f t s) := hkl
          clear hp hp2 hnx HP HN hkl hO hB HR
          have HX : Hid (Below V2.heap.size V2 wr ∧ OwnIv wr V2.heap.size v (partsN f t s k)) := Lib.hid ⟨HB.out, HK.out⟩
          clear em
          go_wp2_with (at_builtin; refine wpList_append_own _ rfl (.tmp 43) (.tmp 60) 24 rfl V2.heap.size 23 i23 _ 2 16 Try.underlying24 hi23 hz0 hz1 hz2 rfl (by decide) v _ _ rfl (HO.out _ HX.out.2) ⟨wr.heap.size, 0, none⟩ 1 1 [.int .i64 ((f / s + (k : Int)) * s), .int .i64 (t)] rfl rfl (HNW.out _) (by simp [Value.oneCell']) H5.out H6.out (H7.out _ HX.out.1) ?_; intro v' w1 hown hgr _; have FN := Lib.hid (FIN.out _ v' w1 HX.out.1 HX.out.2 hown hgr); clear hown hgr)
          go_roundw
          case rel => exact ⟨k + 1, _, rfl, by go_num, HKN.out, FN.out.2, FN.out.1⟩
          case measure => simp [intOf]; omega
      · by_cases hE : (f / s + (k : Int)) * s + s - 1 < t
        · have d8 : f / s + (k : Int) ≤ t / s := by have := HN.out; omega
          have d7 : decide (f / s + (k : Int) ≤ t / s) = true := by simpa using d8
          have hmx : max f ((f / s + (k : Int)) * s) = atN f t s k := (by unfold atN; rw [if_pos hkl])
          have hp2 : part f t s (f / s + (k : Int)) = (f, ((f / s + (k : Int)) * s + s - 1)) := by rw [hp]; exact Prod.ext (by rw [← hmx]; omega) (by show min _ _ = _; omega)
          have hnx2 := Lib.hid (show atN f t s (k + 1) = ((f / s + (k : Int)) * s + s - 1) + 1 by rw [hnx]; omega)
          have HP := Lib.hid (show partsN f t s (k + 1) = partsN f t s k ++ [(f, ((f / s + (k : Int)) * s + s - 1))] by rw [partsN_succ, hp2])
          have b0 : 0 ≤ f ∧ f ≤ 1099511627776 ∧ 0 ≤ ((f / s + (k : Int)) * s + s - 1) ∧ ((f / s + (k : Int)) * s + s - 1) ≤ 1099511627776 ∧ f ≤ ((f / s + (k : Int)) * s + s - 1) ∧ f ≤ t := by omega
          have FIN : Hid (∀ X v' w1, Below V2.heap.size V2 X → OwnIv X V2.heap.size v (partsN f t s k) → w1.ownsRow V2.heap.size 23 2 v' (k + 1) (ivCells (partsN f t s k) ++ [.int .i64 (f), .int .i64 (((f / s + (k : Int)) * s + s - 1))]) → (X.alloc (.cells #[.int .i64 (f), .int .i64 (((f / s + (k : Int)) * s + s - 1))] 23)).grownBy w1 v.ownBlock → OwnIv w1 V2.heap.size v' (partsN f t s (k + 1)) ∧ Below V2.heap.size V2 w1) := by
            intro X v' w1 hx ho q1 q2
            have hxs := hx.size
            refine ⟨?_, (hx.alloc hxs _).grown q2 (by simp; omega) (fun g hg => (ho.lt g hg).1)⟩
            unfold OwnIv
            rw [HP.out, ivCells_append, List.length_append, partsN_length]; exact q1
          have HO : Hid (∀ X, OwnIv X V2.heap.size v (partsN f t s k) → (X.alloc (.cells #[.int .i64 (f), .int .i64 (((f / s + (k : Int)) * s + s - 1))] 23)).ownsRow V2.heap.size 23 2 v k (ivCells (partsN f t s k))) := fun X ho => by
            have := ownsRow_kept ho (below_here (.cells #[.int .i64 (f), .int .i64 (((f / s + (k : Int)) * s + s - 1))] 23))
            rwa [partsN_length] at this
          have H5 : Hid (k + 1 ≤ maxLen) := by show _ ≤ _; unfold maxLen; have := HN.out; omega
          have H6 : Hid ((k + 1) * 16 ≤ 140737488355328) := by show _ ≤ _; have := HN.out; omega
          have H7 : Hid (∀ X, Below V2.heap.size V2 X → V2.heap.size ≤ (X.alloc (.cells #[.int .i64 (f), .int .i64 (((f / s + (k : Int)) * s + s - 1))] 23)).heap.size) := fun X hx => by have := hx.size; simp; omega
          have HNW : Hid (∀ X : World, ∀ j u, [Value.int .i64 (f), .int .i64 (((f / s + (k : Int)) * s + s - 1))][j]? = some u → (X.alloc (.cells #[.int .i64 (f), .int .i64 (((f / s + (k : Int)) * s + s - 1))] 23)).cell? ((⟨X.heap.size, 0, none⟩ : Addr).add j) = some u) := by
            intro X j u hj
            rw [addr_add]
            match j, hj with
            | 0, hj => simp at hj; subst hj; simp [go_sem]
            | 1, hj => simp at hj; subst hj; simp [go_sem]
          have HKN : Hid (k + 1 ≤ partsC f t s) := hkl
          clear hp hp2 hnx HP HN hkl hO hB HR
          have HX : Hid (Below V2.heap.size V2 wr ∧ OwnIv wr V2.heap.size v (partsN f t s k)) := Lib.hid ⟨HB.out, HK.out⟩
          clear em
          go_wp2_with (at_builtin; refine wpList_append_own _ rfl (.tmp 43) (.tmp 60) 24 rfl V2.heap.size 23 i23 _ 2 16 Try.underlying24 hi23 hz0 hz1 hz2 rfl (by decide) v _ _ rfl (HO.out _ HX.out.2) ⟨wr.heap.size, 0, none⟩ 1 1 [.int .i64 (f), .int .i64 (((f / s + (k : Int)) * s + s - 1))] rfl rfl (HNW.out _) (by simp [Value.oneCell']) H5.out H6.out (H7.out _ HX.out.1) ?_; intro v' w1 hown hgr _; have FN := Lib.hid (FIN.out _ v' w1 HX.out.1 HX.out.2 hown hgr); clear hown hgr)
          go_roundw
          case rel => exact ⟨k + 1, _, rfl, by go_num, HKN.out, FN.out.2, FN.out.1⟩
          case measure => simp [intOf]; omega
        · have d8 : f / s + (k : Int) ≤ t / s := by have := HN.out; omega
          have d7 : decide (f / s + (k : Int) ≤ t / s) = true := by simpa using d8
          have hmx : max f ((f / s + (k : Int)) * s) = atN f t s k := (by unfold atN; rw [if_pos hkl])
          have hp2 : part f t s (f / s + (k : Int)) = (f, t) := by rw [hp]; exact Prod.ext (by rw [← hmx]; omega) (by show min _ _ = _; omega)
          have hnx2 := Lib.hid (show atN f t s (k + 1) = t + 1 by rw [hnx]; omega)
          have HP := Lib.hid (show partsN f t s (k + 1) = partsN f t s k ++ [(f, t)] by rw [partsN_succ, hp2])
          have b0 : 0 ≤ f ∧ f ≤ 1099511627776 ∧ 0 ≤ t ∧ t ≤ 1099511627776 ∧ f ≤ t ∧ f ≤ t := by omega
          have FIN : Hid (∀ X v' w1, Below V2.heap.size V2 X → OwnIv X V2.heap.size v (partsN f t s k) → w1.ownsRow V2.heap.size 23 2 v' (k + 1) (ivCells (partsN f t s k) ++ [.int .i64 (f), .int .i64 (t)]) → (X.alloc (.cells #[.int .i64 (f), .int .i64 (t)] 23)).grownBy w1 v.ownBlock → OwnIv w1 V2.heap.size v' (partsN f t s (k + 1)) ∧ Below V2.heap.size V2 w1) := by
            intro X v' w1 hx ho q1 q2
            have hxs := hx.size
            refine ⟨?_, (hx.alloc hxs _).grown q2 (by simp; omega) (fun g hg => (ho.lt g hg).1)⟩
            unfold OwnIv
            rw [HP.out, ivCells_append, List.length_append, partsN_length]; exact q1
          have HO : Hid (∀ X, OwnIv X V2.heap.size v (partsN f t s k) → (X.alloc (.cells #[.int .i64 (f), .int .i64 (t)] 23)).ownsRow V2.heap.size 23 2 v k (ivCells (partsN f t s k))) := fun X ho => by
            have := ownsRow_kept ho (below_here (.cells #[.int .i64 (f), .int .i64 (t)] 23))
            rwa [partsN_length] at this
          have H5 : Hid (k + 1 ≤ maxLen) := by show _ ≤ _; unfold maxLen; have := HN.out; omega
          have H6 : Hid ((k + 1) * 16 ≤ 140737488355328) := by show _ ≤ _; have := HN.out; omega
          have H7 : Hid (∀ X, Below V2.heap.size V2 X → V2.heap.size ≤ (X.alloc (.cells #[.int .i64 (f), .int .i64 (t)] 23)).heap.size) := fun X hx => by have := hx.size; simp; omega
          have HNW : Hid (∀ X : World, ∀ j u, [Value.int .i64 (f), .int .i64 (t)][j]? = some u → (X.alloc (.cells #[.int .i64 (f), .int .i64 (t)] 23)).cell? ((⟨X.heap.size, 0, none⟩ : Addr).add j) = some u) := by
            intro X j u hj
            rw [addr_add]
            match j, hj with
            | 0, hj => simp at hj; subst hj; simp [go_sem]
            | 1, hj => simp at hj; subst hj; simp [go_sem]
          have HKN : Hid (k + 1 ≤ partsC f t s) := hkl
          clear hp hp2 hnx HP HN hkl hO hB HR
          have HX : Hid (Below V2.heap.size V2 wr ∧ OwnIv wr V2.heap.size v (partsN f t s k)) := Lib.hid ⟨HB.out, HK.out⟩
          clear em
          go_wp2_with (at_builtin; refine wpList_append_own _ rfl (.tmp 43) (.tmp 60) 24 rfl V2.heap.size 23 i23 _ 2 16 Try.underlying24 hi23 hz0 hz1 hz2 rfl (by decide) v _ _ rfl (HO.out _ HX.out.2) ⟨wr.heap.size, 0, none⟩ 1 1 [.int .i64 (f), .int .i64 (t)] rfl rfl (HNW.out _) (by simp [Value.oneCell']) H5.out H6.out (H7.out _ HX.out.1) ?_; intro v' w1 hown hgr _; have FN := Lib.hid (FIN.out _ v' w1 HX.out.1 HX.out.2 hown hgr); clear hown hgr)
          go_roundw
          case rel => exact ⟨k + 1, _, rfl, by go_num, HKN.out, FN.out.2, FN.out.1⟩
          case measure => simp [intOf]; omega
    · obtain rfl : k = partsC f t s := by omega
      have d7 : decide (f / s + ((partsC f t s : Nat) : Int) ≤ t / s) = false := by have := HN.out; simp; omega
      obtain ⟨ao, c, hv, hsl, hlc⟩ := hO.slots
      subst hv
      have HS := Lib.hid hsl
      clear hsl hO hB
      go_wp2_with fail
      go_ret
      exact ⟨ao, c, rfl, HS.out, hlc, HBZ.out.trans (HB.out.mono HBZ.out.size)⟩

theorem buckets_any (f t s : Int) (w : World) : Calls Try.prog 21 #[iv f t, .int .i64 s] w (IvsAre w (bkt f t s)) := by
  unfold bkt bktOk
  cases h : okI f t
  · rw [decide_eq_false (by simp)]; exact buckets_a f t s h w
  · by_cases g0 : 1 ≤ s
    · by_cases g1 : s ≤ 1099511627776
      · by_cases g2 : t / s - f / s < 4096
        · rw [decide_eq_true ⟨rfl, g0, g1, g2⟩]; exact buckets_go f t s h g0 g1 g2 w
        · rw [decide_eq_false (by omega)]; exact buckets_d f t s h g0 g1 (by omega) w
      · rw [decide_eq_false (by omega)]; exact buckets_c f t s h g0 (by omega) w
    · rw [decide_eq_false (by omega)]; exact buckets_b f t s h (by omega) w

theorem rbuckets_any (f t s : Int) (w : World) : Calls Try.prog 22 #[iv f t, .int .i64 s] w (IvsAre w (bkt f t s)) := by
  unfold bkt bktOk
  cases h : okI f t
  · rw [decide_eq_false (by simp)]; exact rbuckets_a f t s h w
  · by_cases g0 : 1 ≤ s
    · by_cases g1 : s ≤ 1099511627776
      · by_cases g2 : t / s - f / s < 4096
        · rw [decide_eq_true ⟨rfl, g0, g1, g2⟩]; exact rbuckets_go f t s h g0 g1 g2 w
        · rw [decide_eq_false (by omega)]; exact rbuckets_d f t s h g0 g1 (by omega) w
      · rw [decide_eq_false (by omega)]; exact rbuckets_c f t s h g0 (by omega) w
    · rw [decide_eq_false (by omega)]; exact rbuckets_b f t s h (by omega) w

end Go.Proofs.Ytolkmfpbgheaaaa
