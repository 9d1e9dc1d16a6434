/-
  slices.Clone of differences; delta.Negate.
-/
import Derived.Test.YtfnpfkgmacaboaaQA
import Derived.Test.YtfnpfkgmacaboaaLA
namespace Go.Proofs.Ytfnpfkgmacaboaa
open Go.ChangeShapes Go.WideShapes Go.ChangeAt Go.RowKit
set_option linter.unusedVariables false
set_option linter.unusedSimpArgs false

theorem clone_any (l : List Dl) (ao : Option Addr) (c : Nat) (hl : l.length ≤ 100000000) (hsp : ∀ a, ao = some a → a.spot = none) (w : World) (h : LiesAt Dl.cells 10 w ao l) :
    Calls Try.prog 26 #[.slice ao l.length c] w fun e w' => ∃ v, e = .returned v ∧ Own Dl.cells 10 41 w' w.heap.size v l ∧ Below w.heap.size w w' := by
  cases ao with
  | none =>
    have hn : l = [] := by
      rcases h with h | ⟨_, _, h, _⟩
      · exact h
      · cases h
    subst hn
    refine (Go.Proofs.AnyE.slices_Clone_nil Try.cloneD 0 c w).mono ?_
    rintro e w' ⟨rfl, rfl⟩
    exact ⟨_, rfl, Own.nil _ _, Below.refl _ _⟩
  | some a =>
    obtain ⟨i, z, hi, hz0, hz1, hz2, hz3⟩ := elD.parts
    have hcells : ∃ b off, a = ⟨b, off, none⟩ ∧ ∀ j u, (encs Dl.cells l)[j]? = some u → w.cell? ⟨b, off + j, none⟩ = some u := by
      rcases h with rfl | ⟨b, off, he, hr⟩
      · have := hsp a rfl
        obtain ⟨b, off, sp⟩ := a
        cases this
        exact ⟨b, off, rfl, fun j u hj => by simp [encs] at hj⟩
      · injection he with he
        exact ⟨b, off, he, fun j u hj => hr.cells encD.len (by decide) j u hj⟩
    obtain ⟨b, off, rfl, hc⟩ := hcells
    refine (Go.Proofs.AnyE.slices_Clone Try.cloneD i z 10 120 hi hz0 hz1 hz2 hz3 (by decide) Try.sizeOf41 b off l.length c (encs Dl.cells l) w (encs_length encD.len l) (by unfold maxLen; omega) (by omega) hc (encs_cell' encD.one l)).mono ?_
    rintro e w' ⟨v, rfl, ho, -, hb⟩
    exact ⟨v, rfl, ho, hb⟩
theorem encs_set {α : Type} {enc : α → List Value} {k : Nat} (hk : ∀ x, (enc x).length = k) (x y : α) (j : Nat) (u : Value) (hj : j < k) (hy : enc y = (enc x).set j u) : ∀ (l : List α) (i : Nat), l[i]? = some x → encs enc (l.set i y) = (encs enc l).set (i * k + j) u
  | [], _, h => by simp at h
  | a :: l, 0, h => by
    simp at h
    subst h
    show enc y ++ encs enc l = (enc a ++ encs enc l).set (0 * k + j) u
    rw [hy, List.set_append_left _ _ (by rw [hk]; omega)]
    simp
  | a :: l, i + 1, h => by
    show enc a ++ encs enc (l.set i y) = (enc a ++ encs enc l).set ((i + 1) * k + j) u
    rw [encs_set hk x y j u hj hy l i (by simpa using h), List.set_append_right _ _ (by rw [hk, Nat.add_mul]; omega), hk]
    congr 2
    rw [Nat.add_mul]; omega
/-- A cell of an element of an own list is stored. -/
theorem Own.setAt {α : Type} {enc : α → List Value} {k : Nat} {e : TypeId} {w : World} {B : Nat} {ao : Option Addr} {n c : Nat} {l : List α} (hE : Enc enc k) (h : Own enc k e w B (.slice ao n c) l) (x y : α) (i j : Nat) (u : Value) (hx : l[i]? = some x) (hj : j < k) (hy : enc y = (enc x).set j u) :
    ∃ g, ao = some ⟨g, 0, none⟩ ∧ B ≤ g ∧ w.frozen? ⟨g, i * k + j, none⟩ = false ∧ Own enc k e (w.setCell ⟨g, i * k + j, none⟩ u) B (.slice ao n c) (l.set i y) := by
  have hlt : i < l.length := (List.getElem?_eq_some_iff.1 hx).1
  rcases h.2 with ⟨-, h0⟩ | ⟨g, cap, cur, h1, h2, h3, h4, h5, h6, h7⟩
  · omega
  injection h1 with h1 h1n h1c
  subst h1
  refine ⟨g, rfl, h2, Box.free h3 _, ?_, Or.inr ⟨g, cap, _, ?_, h2, Box.put h3 _ u, ?_, h5, ?_, ?_⟩⟩
  · rw [encs_length hE.len, List.length_set]
  · rw [h1c, h1n, List.length_set]
  · rw [List.length_set]; exact h4
  · simpa using h6
  · rw [encs_set hE.len x y j u hj hy l i hx, ← h7, List.length_set, Array.toList_setIfInBounds, List.take_set]
end Go.Proofs.Ytfnpfkgmacaboaa

/-
  delta.Negate.
-/
namespace Go.Proofs.Ytfnpfkgmacaboaa
open Go.ChangeShapes Go.WideShapes Go.ChangeAt Go.RowKit
set_option linter.unusedVariables false
set_option linter.unusedSimpArgs false

set_option maxHeartbeats 2000000 in
set_option maxRecDepth 100000 in
theorem fneg_any (l : List Dl) (ao : Option Addr) (cap : Nat) (hl : l.length ≤ 100000000) (hsp : ∀ a, ao = some a → a.spot = none) (w : World) (h : DlsAt w ao l) :
    Calls Try.prog 10 #[.slice ao l.length cap] w fun e w' => ∃ v, e = .returned v ∧ OwnD w' w.heap.size v (l.map Dl.neg) ∧ Below w.heap.size w w' := by
  have H := Lib.hid h
  have HC := Lib.hid (clone_any l ao cap hl hsp w h.1)
  clear h hsp
  generalize hll : l.length = ll at *
  have HLL : Hid (ll = l.length) := hll.symm
  clear hll
  go_enter Try.func10, Try.ntmps10
  go_wp2_with (go_at_call 26; (with_reducible refine HC.out.mono ?_); rintro e w1 ⟨v1, rfl, ho, hb⟩; have HB1 := Lib.hid hb; obtain ⟨a1, c1, rfl, -⟩ := ho.lies encD; rw [← HLL.out] at ho ⊢; have HO1 := Lib.hid ho; clear ho hb)
  go_loopw [8, 3] (fun j _ wr => ∃ (i : Nat), i ≤ ll ∧ j = .int .i64 i ∧ Hid (Own Dl.cells 10 41 wr w.heap.size (.slice a1 ll c1) ((l.take i).map Dl.neg ++ l.drop i)) ∧ Hid (Below w.heap.size w wr)) (fun j _ _ => ll - (intOf j).toNat)
  case atStart => exact ⟨0, by omega, rfl, by simpa using HO1, HB1⟩
  case round =>
    obtain ⟨i, hi, rfl, HR, HB⟩ := hrel
    by_cases hlt : i < ll
    · obtain ⟨x, hx⟩ : ∃ x, l[i]? = some x := ⟨l[i]'(by have := HLL.out; omega), List.getElem?_eq_getElem (by have := HLL.out; omega)⟩
      have hxr : ((l.take i).map Dl.neg ++ l.drop i)[i]? = some x := by
        rw [List.getElem?_append_right (by simp; omega)]
        simp only [List.length_map, List.length_take]
        rw [show i - min i l.length = 0 by have := HLL.out; omega]
        simp [hx]
      have HW : Hid (wrap64 (-x.n) = IntKind.i64.wrap (-x.n)) := wrap64_is _
      have hset : ((l.take i).map Dl.neg ++ l.drop i).set i (x.neg) = (l.take (i + 1)).map Dl.neg ++ l.drop (i + 1) := by
        rw [List.set_append_right _ _ (by simp; omega)]
        simp only [List.length_map, List.length_take]
        rw [show i - min i l.length = 0 by have := HLL.out; omega, take_snoc hx, List.map_append, List.drop_eq_getElem_cons (by have := HLL.out; omega)]
        rw [List.getElem?_eq_getElem (by have := HLL.out; omega)] at hx
        injection hx with hx
        simp [hx]
      have hlr : ((l.take i).map Dl.neg ++ l.drop i).length = ll := by simp; have := HLL.out; omega
      obtain ⟨g, rfl, hg1, hg2, hg3⟩ := HR.out.setAt encD x x.neg i 9 (.int .i64 (IntKind.i64.wrap (-x.n))) hxr (by decide) rfl
      obtain ⟨a2, c2, he, -, -, hlies⟩ := HR.out.lies encD
      injection he with he1 he2 he3
      subst he1
      rw [hset] at hg3
      clear he2 he3
      obtain ⟨b, off, hb, hrow⟩ := hlies.some (by have := List.getElem?_eq_some_iff.1 hxr; omega)
      injection hb with hb
      injection hb with hb1 hb2 hb3
      subst hb1 hb2
      obtain ⟨k0, k1, k2, k3, k4, k5, k6, k7, k8, k9⟩ := Dl.cell hrow hxr
      clear k0 k1 k2 k3 k4 k5 k6 k7 k8
      simp only [Nat.zero_add] at k9
      rw [← HW.out] at hg3
      have HG3 := Lib.hid hg3
      have HGB := Lib.hid hg1
      clear hg3 hset hxr hx hrow hlies hg1
      go_wp2_with fail
      go_roundw
      case rel => exact ⟨i + 1, by omega, by go_num, HG3, HB.out.setCell HGB.out _⟩
      case measure => simp [intOf]; omega
    · obtain rfl : i = ll := by omega
      go_wp2_with fail
      go_ret
      refine ⟨_, rfl, ⟨?_, fun d hd => ?_⟩, HB.out⟩
      · have := HR.out
        rw [HLL.out, List.take_length, List.drop_length, List.append_nil] at this
        rw [HLL.out]; exact this
      · obtain ⟨y, hy, rfl⟩ := List.mem_map.1 hd; exact ((H.out.2 y hy).kept HB.out).neg
end Go.Proofs.Ytfnpfkgmacaboaa
